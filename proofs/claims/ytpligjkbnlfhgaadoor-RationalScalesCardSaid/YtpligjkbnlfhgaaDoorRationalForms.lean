/- The walk of RationalForms. -/
import Derived.Test.YtpligjkbnlfhgaaDoorLw
import Derived.Test.YtpligjkbnlfhgaaDoorArgs
namespace Go.Proofs.YtpligjkbnlfhgaaDoor
open Go.RowKit

def rK : List CK := [.str, .str]
theorem rK_open {c : List Value} (h : CellsOk rK c) : ∃ N D : ByteArray, c = [.string N, .string D] ∧ N.size ≤ maxLen ∧ D.size ≤ maxLen := by
  match c, h with
  | [_, _], ⟨⟨N, h1, h2⟩, ⟨D, h3, h4⟩, _⟩ => subst h1; subst h3; exact ⟨N, D, rfl, h2, h4⟩
theorem i16_bd {a : Int} (h : (Lit.int .i16 a).wf = true) : -32768 ≤ a ∧ a ≤ 32767 := by
  simpa [Lit.wf, IntKind.min, IntKind.max, IntKind.signed, IntKind.bits] using h
theorem i64_bd {a : Int} (h : (Lit.int .i64 a).wf = true) : -9223372036854775808 ≤ a ∧ a ≤ 9223372036854775807 := by
  simpa [Lit.wf, IntKind.min, IntKind.max, IntKind.signed, IntKind.bits] using h
theorem tmod_bd (a : Int) : -39 ≤ a.tmod 40 ∧ a.tmod 40 ≤ 39 := by
  have h1 := Int.tmod_lt_of_pos a (b := 40) (by decide)
  have h2 := Int.lt_tmod_of_pos a (b := 40) (by decide)
  omega
/-- What a writer answers: two texts, and whether they are a fraction in its form. -/
theorem txV_form {R : Option Txt} (h : R = none ∨ ∃ x, wrR x = R) : ∃ A B ok, txV R = .tuple #[.agg #[.string A, .string B], .bool ok] ∧ formB A.data.toList B.data.toList = ok ∧ A.size ≤ maxLen ∧ B.size ≤ maxLen := by
  cases R with
  | none => exact ⟨⟨#[]⟩, ⟨#[]⟩, false, rfl, by decide, by unfold maxLen; decide, by unfold maxLen; decide⟩
  | some t =>
    rcases h with h | ⟨x, hx⟩
    · cases h
    · have hr := rd_wr hx
      have ht : Tx ⟨t.1.toArray⟩ ⟨t.2.toArray⟩ x := Tx.of_rd (by exact hr)
      refine ⟨_, _, true, rfl, ?_, ht.lens.1, ht.lens.2⟩
      rw [← (rd_form (N := t.1) (D := t.2)).1]
      show (rdR (t.1, t.2)).isSome = true
      rw [show (t.1, t.2) = t from rfl, hr]; rfl
theorem ofT_form (n d : Int) : ofT n d = none ∨ ∃ x, wrR x = ofT n d := by
  unfold ofT
  by_cases h : d = 0
  · rw [if_pos h]; exact .inl rfl
  · rw [if_neg h]; exact .inr ⟨_, rfl⟩

set_option maxRecDepth 100000 in
set_option maxHeartbeats 8000000 in
theorem rationalForms4 (c0 : List Value) (a1 a2 a3 a4 : Int) (w : World) (w0 : CellsOk rK c0) (w1 : (Lit.int .i64 a1).wf = true) (w2 : (Lit.int .i64 a2).wf = true) (w3 : (Lit.int .i16 a3).wf = true) (w4 : (Lit.int .i16 a4).wf = true) :
    Calls Tryd.prog 4 #[.agg c0.toArray, .int .i64 a1, .int .i64 a2, .int .i16 a3, .int .i16 a4] w fun e w' => e = .returned (.bool true) ∧ Below w.heap.size w w' := by
  obtain ⟨N, D, rfl, hN, hD⟩ := rK_open w0
  obtain ⟨b1, d1⟩ := i64_bd w1
  obtain ⟨b2, d2⟩ := i64_bd w2
  obtain ⟨b3, d3⟩ := i16_bd w3
  obtain ⟨b4, d4⟩ := i16_bd w4
  have hNb := hN
  have hDb := hD
  unfold maxLen at hNb hDb
  obtain ⟨A1, B1, o1, h1, f1, l1, m1⟩ := txV_form (ofT_form a1 a2)
  obtain ⟨A2, B2, o2, h2, f2, l2, m2⟩ := txV_form (ofT_form (a3.tmod 40) (a4.tmod 40))
  have t3 := tmod_bd a3
  have t4 := tmod_bd a4
  have e1 := fun w => of21 a1 a2 w b1 d1 b2 d2
  have e2 := fun w => of22 a1 a2 w b1 d1 b2 d2
  have e3 := fun w => of21 (a3.tmod 40) (a4.tmod 40) w (by omega) (by omega) (by omega) (by omega)
  have e4 := fun w => of22 (a3.tmod 40) (a4.tmod 40) w (by omega) (by omega) (by omega) (by omega)
  rw [h1] at e1 e2
  rw [h2] at e3 e4
  have v1 := fun w => valid23 A1 B1 w l1 m1
  have v2 := fun w => valid23 A2 B2 w l2 m2
  rw [f1] at v1
  rw [f2] at v2
  have v3 := fun w => valid23 N D w hN hD
  have v4 := fun w => valid24 N D w hN hD
  obtain ⟨c, hc⟩ : ∃ c, formB N.data.toList D.data.toList = c := ⟨_, rfl⟩
  rw [hc] at v3 v4
  have E1 := Lib.hid e1
  have E2 := Lib.hid e2
  have E3 := Lib.hid e3
  have E4 := Lib.hid e4
  have V1 := Lib.hid v1
  have V2 := Lib.hid v2
  have V3 := Lib.hid v3
  have V4 := Lib.hid v4
  have g0 := heap_alloc_new w (.cells #[.string N, .string D] 23)
  have hbW : Below w.heap.size w (w.alloc (.cells #[.string N, .string D] 23)) := (Below.refl _ _).alloc (Nat.le_refl _) _
  clear e1 e2 e3 e4 v1 v2 v3 v4 h1 h2 f1 f2 hc w1 w2 w3 w4 w0
  go_enter Tryd.func4, Tryd.ntmps4
  go_wp2_with fail
  generalize w.alloc (.cells #[.string N, .string D] 23) = W at *
  refine (awake17 _).mono ?_
  rintro e u0 ⟨rfl, hb0⟩
  have G0 := blk_below hb0 g0
  have hB0 := below_trans' hbW hbW.size hb0
  have k0 := cells2 G0
  by_cases hbig : (500 : Int) < (N.size : Int) ∨ (500 : Int) < (D.size : Int)
  · by_cases hb1 : (500 : Int) < (N.size : Int)
    · clear hbig
      go_wp2_with fail
      go_ret
      exact ⟨rfl, hB0⟩
    · have hb2 : (500 : Int) < (D.size : Int) := by omega
      clear hbig
      go_wp2_with fail
      go_ret
      exact ⟨rfl, hB0⟩
  · have hb1 : ¬ (500 : Int) < (N.size : Int) := by omega
    have hb2 : ¬ (500 : Int) < (D.size : Int) := by omega
    clear hbig
    go_wp2_with fail
    refine (E1.out _).mono ?_
    rintro e u1 ⟨rfl, hb⟩
    have hst := below_trans' hb hb.size ((Below.refl u1.heap.size u1).alloc (Nat.le_refl _) (.cells #[.string A1, .string B1] 23))
    replace G0 := blk_below hst G0
    have G1 := heap_alloc_new u1 (.cells #[.string A1, .string B1] 23)
    replace hB0 := below_trans' hB0 hB0.size hst
    clear hst hb k0
    go_wp2_with fail
    refine (E2.out _).mono ?_
    rintro e u2 ⟨rfl, hb⟩
    have hst := below_trans' hb hb.size ((Below.refl u2.heap.size u2).alloc (Nat.le_refl _) (.cells #[.string A1, .string B1] 23))
    replace G0 := blk_below hst G0
    replace G1 := blk_below hst G1
    have G2 := heap_alloc_new u2 (.cells #[.string A1, .string B1] 23)
    replace hB0 := below_trans' hB0 hB0.size hst
    clear hst hb
    go_wp2_with fail
    refine (E3.out _).mono ?_
    rintro e u3 ⟨rfl, hb⟩
    have hst := below_trans' hb hb.size ((Below.refl u3.heap.size u3).alloc (Nat.le_refl _) (.cells #[.string A2, .string B2] 23))
    replace G0 := blk_below hst G0
    replace G1 := blk_below hst G1
    replace G2 := blk_below hst G2
    have G3 := heap_alloc_new u3 (.cells #[.string A2, .string B2] 23)
    replace hB0 := below_trans' hB0 hB0.size hst
    clear hst hb
    go_wp2_with fail
    refine (E4.out _).mono ?_
    rintro e u4 ⟨rfl, hb⟩
    have hst := below_trans' hb hb.size ((Below.refl u4.heap.size u4).alloc (Nat.le_refl _) (.cells #[.string A2, .string B2] 23))
    replace G0 := blk_below hst G0
    replace G1 := blk_below hst G1
    replace G2 := blk_below hst G2
    replace G3 := blk_below hst G3
    have G4 := heap_alloc_new u4 (.cells #[.string A2, .string B2] 23)
    replace hB0 := below_trans' hB0 hB0.size hst
    clear hst hb
    go_upto_region 9 with fail
    generalize u4.alloc (.cells #[.string A2, .string B2] 23) = W9 at *
    have hS : ∀ w', Below W9.heap.size W9 w' → (w'.cell? ⟨w.heap.size, 0, none⟩ = some (.string N) ∧ w'.cell? ⟨w.heap.size, 1, none⟩ = some (.string D)) ∧ (w'.cell? ⟨u1.heap.size, 0, none⟩ = some (.string A1) ∧ w'.cell? ⟨u1.heap.size, 1, none⟩ = some (.string B1)) ∧
        (w'.cell? ⟨u2.heap.size, 0, none⟩ = some (.string A1) ∧ w'.cell? ⟨u2.heap.size, 1, none⟩ = some (.string B1)) ∧ (w'.cell? ⟨u3.heap.size, 0, none⟩ = some (.string A2) ∧ w'.cell? ⟨u3.heap.size, 1, none⟩ = some (.string B2)) ∧
        (w'.cell? ⟨u4.heap.size, 0, none⟩ = some (.string A2) ∧ w'.cell? ⟨u4.heap.size, 1, none⟩ = some (.string B2)) := fun w' h => ⟨cells2 (blk_below h G0), cells2 (blk_below h G1), cells2 (blk_below h G2), cells2 (blk_below h G3), cells2 (blk_below h G4)⟩
    have HS := Lib.hid hS
    have hbd : Below W9.heap.size W9 W9.drew := (Below.refl _ _).drew
    have s0 := hS _ hbd
    clear hS
    go_region_held3 (fun w' => (w'.cell? ⟨w.heap.size, 0, none⟩ = some (.string N) ∧ w'.cell? ⟨w.heap.size, 1, none⟩ = some (.string D)) ∧ (w'.cell? ⟨u1.heap.size, 0, none⟩ = some (.string A1) ∧ w'.cell? ⟨u1.heap.size, 1, none⟩ = some (.string B1)) ∧
        (w'.cell? ⟨u2.heap.size, 0, none⟩ = some (.string A1) ∧ w'.cell? ⟨u2.heap.size, 1, none⟩ = some (.string B1)) ∧ (w'.cell? ⟨u3.heap.size, 0, none⟩ = some (.string A2) ∧ w'.cell? ⟨u3.heap.size, 1, none⟩ = some (.string B2)) ∧
        (w'.cell? ⟨u4.heap.size, 0, none⟩ = some (.string A2) ∧ w'.cell? ⟨u4.heap.size, 1, none⟩ = some (.string B2)))
      (first | with_reducible exact s0 | with_reducible exact s1 | with_reducible exact s2 | with_reducible exact s3 | with_reducible exact s4)
      (first
        | (go_at_call 24; (with_reducible refine (V4.out _).mono ?_); rintro e x2 ⟨rfl, hb2⟩; have hC2 := below_trans' hC1 hC1.size hb2; have s2 := HS.out _ hC2)
        | (go_at_call 23; (with_reducible refine (V3.out _).mono ?_); rintro e x1 ⟨rfl, hb1⟩; have hC1 := below_trans' hbd hbd.size hb1; have s1 := HS.out _ hC1)
        | (go_at_call 23; (with_reducible refine (V1.out _).mono ?_); rintro e x3 ⟨rfl, hb3⟩; have hC3 := below_trans' hC2 hC2.size hb3; have s3 := HS.out _ hC3)
        | (go_at_call 23; (with_reducible refine (V2.out _).mono ?_); rintro e x4 ⟨rfl, hb4⟩; have hC4 := below_trans' hC3 hC3.size hb4; have s4 := HS.out _ hC4))
    all_goals
      clear s0 s1 s2 s3 s4
      go_wp2_with fail
      go_ret
      exact ⟨rfl, below_trans' hB0 hB0.size hC4⟩
end Go.Proofs.YtpligjkbnlfhgaaDoor
