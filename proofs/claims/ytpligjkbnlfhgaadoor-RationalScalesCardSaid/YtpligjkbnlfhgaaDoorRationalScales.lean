/- The walk of RationalScales. -/
import Derived.Test.YtpligjkbnlfhgaaDoorScB
import Derived.Test.YtpligjkbnlfhgaaDoorRationalForms
namespace Go.Proofs.YtpligjkbnlfhgaaDoor
open Go.RowKit

theorem u8_bd' {a : Int} (h : (Lit.int .u8 a).wf = true) : 0 ≤ a ∧ a ≤ 255 := by
  simpa [Lit.wf, IntKind.min, IntKind.max, IntKind.signed, IntKind.bits] using h
/-- The cells of fourteen texts, of four units. -/
def Z14 (w : World) (g : Nat) (Z : Nat → ByteArray) : Prop := ∃ (cs : Array Value) (t : TypeId), w.heap[g]? = some (.cells cs t (0, 0)) ∧ ∀ j, j < 14 → cs[j]? = some (.string (Z j))
theorem Z14.cell {w : World} {g : Nat} {Z : Nat → ByteArray} (h : Z14 w g Z) (j : Nat) (hj : j < 14) : w.cell? ⟨g, j, none⟩ = some (.string (Z j)) := by
  obtain ⟨cs, t, h1, h2⟩ := h
  rw [cell_of_block h1]; exact h2 j hj
theorem Z14.below {w w' : World} {g : Nat} {Z : Nat → ByteArray} (h : Z14 w g Z) (hb : Below w.heap.size w w') : Z14 w' g Z := by
  obtain ⟨cs, t, h1, h2⟩ := h
  exact ⟨cs, t, blk_below hb h1, h2⟩
def U4 (w : World) (g : Nat) (U : Nat → Int) : Prop := ∃ (cs : Array Value) (t : TypeId), w.heap[g]? = some (.cells cs t (0, 0)) ∧ ∀ j, j < 4 → cs[j]? = some (.int .i64 (U j))
theorem U4.cell {w : World} {g : Nat} {U : Nat → Int} (h : U4 w g U) (j : Nat) (hj : j < 4) : w.cell? ⟨g, j, none⟩ = some (.int .i64 (U j)) := by
  obtain ⟨cs, t, h1, h2⟩ := h
  rw [cell_of_block h1]; exact h2 j hj
theorem U4.below {w w' : World} {g : Nat} {U : Nat → Int} (h : U4 w g U) (hb : Below w.heap.size w w') : U4 w' g U := by
  obtain ⟨cs, t, h1, h2⟩ := h
  exact ⟨cs, t, blk_below hb h1, h2⟩
/-- The ends of a multiple are next to each other. -/
theorem scale_near {t : Txt} {u a b : Int} (h : scaleT t u = some (a, b)) : -2305843009213693952 ≤ a ∧ a ≤ b ∧ b ≤ 2305843009213693952 ∧ (b - a = 0 ∨ b - a = 1) := by
  unfold scaleT at h
  cases e : rdR t with
  | none => rw [e] at h; cases h
  | some x =>
    rw [e] at h
    simp only at h
    by_cases hu : u < 1
    · rw [if_pos hu] at h; cases h
    · rw [if_neg hu, scale_parts] at h
      by_cases h0 : x.num.natAbs * u.toNat % x.den = 0
      · rw [if_pos h0] at h
        generalize x.num.natAbs * u.toNat / x.den = q at h
        by_cases hg : 2305843009213693952 < q
        · rw [if_pos hg] at h; cases h
        · rw [if_neg hg] at h
          by_cases hs : x.num < 0
          · rw [if_pos hs] at h
            simp only [Option.some.injEq, Prod.mk.injEq] at h
            omega
          · rw [if_neg hs] at h
            simp only [Option.some.injEq, Prod.mk.injEq] at h
            omega
      · rw [if_neg h0] at h
        generalize x.num.natAbs * u.toNat / x.den = q at h
        by_cases hg : 2305843009213693952 < q + 1
        · rw [if_pos hg] at h; cases h
        · rw [if_neg hg] at h
          by_cases hs : x.num < 0
          · rw [if_pos hs] at h
            simp only [Option.some.injEq, Prod.mk.injEq] at h
            omega
          · rw [if_neg hs] at h
            simp only [Option.some.injEq, Prod.mk.injEq] at h
            omega
theorem scV_near {t : Txt} {u : Int} : ∃ a b ok, scV (scaleT t u) = .tuple #[.int .i64 a, .int .i64 b, .bool ok] ∧ -2305843009213693952 ≤ a ∧ a ≤ b ∧ b ≤ 2305843009213693952 ∧ (b - a = 0 ∨ b - a = 1) := by
  cases h : scaleT t u with
  | none => exact ⟨0, 0, false, rfl, by omega, by omega, by omega, .inl rfl⟩
  | some r =>
    obtain ⟨a, b⟩ := r
    exact ⟨a, b, true, rfl, scale_near h⟩
theorem of18s' (num den : Int) (w : World) (h1 : -9223372036854775808 ≤ num) (h2 : num ≤ 9223372036854775807) (h3 : -9223372036854775808 ≤ den) (h4 : den ≤ 9223372036854775807) :
    Calls Tryd.prog 18 #[.int .i64 num, .int .i64 den] w fun e w' => ∃ A B, e = .returned (.agg #[.string A, .string B]) ∧ (A.size ≤ maxLen ∧ B.size ≤ maxLen) ∧ Below w.heap.size w w' := by
  refine (of18 num den w h1 h2 h3 h4).mono ?_
  rintro e w' ⟨A, B, rfl, hT, hb⟩
  exact ⟨A, B, rfl, hT.lens, hb⟩
theorem tmod_in' (a b : Int) (hb : 0 < b) (hb2 : b ≤ 1000) : -1000 ≤ a.tmod b ∧ a.tmod b ≤ 1000 := by
  have h1 := Int.tmod_lt_of_pos a hb
  have h2 := Int.lt_tmod_of_pos a hb
  omega

set_option maxRecDepth 100000 in
set_option maxHeartbeats 8000000 in
theorem rationalScales3 (c0 : List Value) (a1 a2 a3 a4 : Int) (w : World) (w0 : CellsOk rK c0) (w1 : (Lit.int .i64 a1).wf = true) (w2 : (Lit.int .i64 a2).wf = true) (w3 : (Lit.int .i64 a3).wf = true) (w4 : (Lit.int .u8 a4).wf = true) :
    Calls Tryd.prog 3 #[.agg c0.toArray, .int .i64 a1, .int .i64 a2, .int .i64 a3, .int .u8 a4] w fun e w' => e = .returned (.bool true) ∧ Below w.heap.size w w' := by
  obtain ⟨N, D, rfl, hN, hD⟩ := rK_open w0
  obtain ⟨b1, d1⟩ := i64_bd w1
  obtain ⟨b2, d2⟩ := i64_bd w2
  obtain ⟨b3, d3⟩ := i64_bd w3
  obtain ⟨b4, d4⟩ := u8_bd' w4
  have hNb := hN
  have hDb := hD
  unfold maxLen at hNb hDb
  have t1 := tmod_in' a1 1000 (by decide) (by decide)
  have t2 := tmod_in' a2 50 (by decide) (by decide)
  have O1 := Lib.hid (fun w => of18s' a1 a2 w b1 d1 b2 d2)
  have O2 := Lib.hid (fun w => of18s' (a1.tmod 1000) (a2.tmod 50) w (by omega) (by omega) (by omega) (by omega))
  have O3 := Lib.hid (fun w => of18s' 2305843009213693952 1 w (by decide) (by decide) (by decide) (by decide))
  have O4 := Lib.hid (fun w => of18s' 2305843009213693953 1 w (by decide) (by decide) (by decide) (by decide))
  have O5 := Lib.hid (fun w => of18s' (-2305843009213693952) 1 w (by decide) (by decide) (by decide) (by decide))
  have O6 := Lib.hid (fun w => of18s' (-2305843009213693953) 1 w (by decide) (by decide) (by decide) (by decide))
  have g0 := heap_alloc_new w (.cells #[.string N, .string D] 23)
  have hbW : Below w.heap.size w (w.alloc (.cells #[.string N, .string D] 23)) := (Below.refl _ _).alloc (Nat.le_refl _) _
  clear w0 w1 w2 w3 w4 t1 t2
  go_enter Tryd.func3, Tryd.ntmps3
  go_wp2_with fail
  generalize w.alloc (.cells #[.string N, .string D] 23) = W at *
  refine (awake17 _).mono ?_
  rintro e u0 ⟨rfl, hb0⟩
  have G0 := blk_below hb0 g0
  have hB0 := below_trans' hbW hbW.size hb0
  have k0 := cells2 G0
  clear g0 hb0
  by_cases hb1 : (500 : Int) < (N.size : Int)
  · go_wp2_with fail
    go_ret
    exact ⟨rfl, hB0⟩
  · by_cases hb2 : (500 : Int) < (D.size : Int)
    · go_wp2_with fail
      go_ret
      exact ⟨rfl, hB0⟩
    · go_wp2_with fail
      clear k0
      have hbd : Below u0.heap.size u0 u0.drew := (Below.refl _ _).drew
      have hS : ∀ w', Below u0.heap.size u0 w' → (w'.cell? ⟨w.heap.size, 0, none⟩ = some (.string N) ∧ w'.cell? ⟨w.heap.size, 1, none⟩ = some (.string D)) := fun w' h => cells2 (blk_below h G0)
      have s0 := hS _ hbd
      have HS := Lib.hid hS
      clear hS
      go_region_held3 (fun w' => (w'.cell? ⟨w.heap.size, 0, none⟩ = some (.string N) ∧ w'.cell? ⟨w.heap.size, 1, none⟩ = some (.string D)))
        (first | with_reducible exact s0 | with_reducible exact s1 | with_reducible exact s2 | with_reducible exact s3 | with_reducible exact s4 | with_reducible exact s5 | with_reducible exact s6 | exact HS.out _ (hC6.alloc hC6.size _))
        (first
          | (go_at_call 18; (with_reducible refine (O1.out u0.drew).mono ?_); rintro e x1 ⟨A1, B1, rfl, z1, hb1⟩; have hC1 := below_trans' hbd hbd.size hb1; have s1 := HS.out _ hC1)
          | (go_at_call 18; (with_reducible refine (O2.out x1).mono ?_); rintro e x2 ⟨A2, B2, rfl, z2, hb2⟩; have hC2 := below_trans' hC1 hC1.size hb2; have s2 := HS.out _ hC2)
          | (go_at_call 18; (with_reducible refine (O3.out x2).mono ?_); rintro e x3 ⟨A3, B3, rfl, z3, hb3⟩; have hC3 := below_trans' hC2 hC2.size hb3; have s3 := HS.out _ hC3)
          | (go_at_call 18; (with_reducible refine (O4.out x3).mono ?_); rintro e x4 ⟨A4, B4, rfl, z4, hb4⟩; have hC4 := below_trans' hC3 hC3.size hb4; have s4 := HS.out _ hC4)
          | (go_at_call 18; (with_reducible refine (O5.out x4).mono ?_); rintro e x5 ⟨A5, B5, rfl, z5, hb5⟩; have hC5 := below_trans' hC4 hC4.size hb5; have s5 := HS.out _ hC5)
          | (go_at_call 18; (with_reducible refine (O6.out x5).mono ?_); rintro e x6 ⟨A6, B6, rfl, z6, hb6⟩; have hC6 := below_trans' hC5 hC5.size hb6; have s6 := HS.out _ hC6))
      all_goals
        obtain ⟨Z, hZ⟩ : ∃ Z : Nat → ByteArray, Z = fun j => [N, D, A1, B1, A2, B2, A3, B3, A4, B4, A5, B5, A6, B6].getD j N := ⟨_, rfl⟩
        obtain ⟨U, hU⟩ : ∃ U : Nat → Int, U = fun j => [a3, 1, a4, 4294967296].getD j 0 := ⟨_, rfl⟩
        obtain ⟨hal, gA, gB⟩ := allocs2' x6 #[.string N, .string D, .string A1, .string B1, .string A2, .string B2, .string A3, .string B3, .string A4, .string B4, .string A5, .string B5, .string A6, .string B6] #[.int .i64 a3, .int .i64 1, .int .i64 a4, .int .i64 4294967296] 23 3
        have hz0 : Z14 ((x6.alloc (.cells #[.string N, .string D, .string A1, .string B1, .string A2, .string B2, .string A3, .string B3, .string A4, .string B4, .string A5, .string B5, .string A6, .string B6] 23)).alloc (.cells #[.int .i64 a3, .int .i64 1, .int .i64 a4, .int .i64 4294967296] 3)) x6.heap.size Z := by
          refine ⟨_, _, gA, fun j hj => ?_⟩
          rw [hZ]
          match j, hj with
          | 0, _ => rfl
          | 1, _ => rfl
          | 2, _ => rfl
          | 3, _ => rfl
          | 4, _ => rfl
          | 5, _ => rfl
          | 6, _ => rfl
          | 7, _ => rfl
          | 8, _ => rfl
          | 9, _ => rfl
          | 10, _ => rfl
          | 11, _ => rfl
          | 12, _ => rfl
          | 13, _ => rfl
          | j + 14, h => exact absurd h (by omega)
        have hu0 : U4 ((x6.alloc (.cells #[.string N, .string D, .string A1, .string B1, .string A2, .string B2, .string A3, .string B3, .string A4, .string B4, .string A5, .string B5, .string A6, .string B6] 23)).alloc (.cells #[.int .i64 a3, .int .i64 1, .int .i64 a4, .int .i64 4294967296] 3)) (x6.heap.size + 1) U := by
          refine ⟨_, _, gB, fun j hj => ?_⟩
          rw [hU]
          match j, hj with
          | 0, _ => rfl
          | 1, _ => rfl
          | 2, _ => rfl
          | 3, _ => rfl
          | j + 4, h => exact absurd h (by omega)
        have hzl : ∀ j, (Z j).size ≤ maxLen := fun j => by
          rw [hZ]
          show ([N, D, A1, B1, A2, B2, A3, B3, A4, B4, A5, B5, A6, B6].getD j N).size ≤ maxLen
          rw [List.getD_eq_getElem?_getD]
          cases hj : [N, D, A1, B1, A2, B2, A3, B3, A4, B4, A5, B5, A6, B6][j]? with
          | none => exact hN
          | some t =>
            have hm := List.mem_of_getElem? hj
            simp only [List.mem_cons, List.not_mem_nil, or_false] at hm
            show t.size ≤ maxLen
            rcases hm with rfl | rfl | rfl | rfl | rfl | rfl | rfl | rfl | rfl | rfl | rfl | rfl | rfl | rfl <;> first | assumption | exact z1.1 | exact z1.2 | exact z2.1 | exact z2.2 | exact z3.1 | exact z3.2 | exact z4.1 | exact z4.2 | exact z5.1 | exact z5.2 | exact z6.1 | exact z6.2
        have hul : ∀ j, -9223372036854775808 ≤ U j ∧ U j ≤ 9223372036854775807 := fun j => by
          rw [hU]
          match j with
          | 0 => exact ⟨b3, d3⟩
          | 1 => exact ⟨by show (-9223372036854775808 : Int) ≤ 1; decide, by show (1 : Int) ≤ 9223372036854775807; decide⟩
          | 2 => exact ⟨by show -9223372036854775808 ≤ a4; omega, by show a4 ≤ 9223372036854775807; omega⟩
          | 3 => exact ⟨by show (-9223372036854775808 : Int) ≤ 4294967296; decide, by show (4294967296 : Int) ≤ 9223372036854775807; decide⟩
          | j + 4 => exact ⟨by show (-9223372036854775808 : Int) ≤ 0; decide, by show (0 : Int) ≤ 9223372036854775807; decide⟩
        have HZL := Lib.hid hzl
        have HUL := Lib.hid hul
        have HZ0 := Lib.hid hz0
        have HU0 := Lib.hid hu0
        have hBA := below_trans' hB0 hB0.size (below_trans' hC6 hC6.size hal)
        clear hZ hU hal gA gB hz0 hu0 hzl hul s0 s1 s2 s3 s4 s5 s6 hC1 hC2 hC3 hC4 hC5 hC6 G0 hbd hb1 hb2 hb3 hb4 hb5 hb6 z1 z2 z3 z4 z5 z6
        go_wp2_with fail
        generalize (x6.alloc (.cells #[.string N, .string D, .string A1, .string B1, .string A2, .string B2, .string A3, .string B3, .string A4, .string B4, .string A5, .string B5, .string A6, .string B6] 23)).alloc (.cells #[.int .i64 a3, .int .i64 1, .int .i64 a4, .int .i64 4294967296] 3) = wA at *
        generalize hGb : x6.heap.size = G at *
        clear hGb
        go_loopg [13, 14, 15, 16, 17, 18, 19, 20] 7 (fun r ii _ _ _ _ _ _ _ wr => ∃ k : Nat, k ≤ 7 ∧ r = 7 - k ∧ ii = .int .i64 k ∧ Below wA.heap.size wA wr)
        case atStart => exact ⟨0, by omega, rfl, rfl, Below.refl _ _⟩
        case round =>
          obtain ⟨k, hk, hr, rfl, hbw⟩ := hrel
          have HR := Lib.hid hr
          clear hr
          by_cases hk7 : k < 7
          · have hk7I : (k : Int) < 7 := by omega
            go_wp2_with fail
            have hbw' := hbw
            obtain ⟨wo, hwo⟩ : ∃ wo : World, wo = wr := ⟨_, rfl⟩
            rw [← hwo] at hbw' ⊢
            clear hbw hwo
            go_loopg [14, 15, 16, 17, 18, 19, 20] 4 (fun r jj _ _ _ _ _ _ wr => ∃ j : Nat, j ≤ 4 ∧ r = 4 - j ∧ jj = .int .i64 j ∧ Below wA.heap.size wA wr)
            case atStart => exact ⟨0, by omega, rfl, rfl, hbw'⟩
            case round =>
              obtain ⟨j, hj, hr, rfl, hbw⟩ := hrel
              have HRi := Lib.hid hr
              clear hr hbw'
              by_cases hj4 : j < 4
              · have hj4I : (j : Int) < 4 := by omega
                obtain ⟨X, hX⟩ : ∃ X, Z (k * 2) = X := ⟨_, rfl⟩
                obtain ⟨Y, hY⟩ : ∃ Y, Z (k * 2 + 1) = Y := ⟨_, rfl⟩
                obtain ⟨u, hu⟩ : ∃ u, U j = u := ⟨_, rfl⟩
                have hXl := HZL.out (k * 2)
                have hYl := HZL.out (k * 2 + 1)
                have hul := HUL.out j
                rw [hX] at hXl
                rw [hY] at hYl
                rw [hu] at hul
                obtain ⟨ea, eb, ok, hsc, n1, n2, n3, n4⟩ := scV_near (t := (X.data.toList, Y.data.toList)) (u := u)
                have c1 := fun w => scale19 X Y u w hXl hYl hul.1 hul.2
                have c2 := fun w => scale20 X Y u w hXl hYl hul.1 hul.2
                rw [hsc] at c1 c2
                have C1 := Lib.hid c1
                have C2 := Lib.hid c2
                have hS : ∀ w', Below wA.heap.size wA w' → (w'.cell? ⟨G, k * 2, none⟩ = some (.string X) ∧ w'.cell? ⟨G, k * 2 + 1, none⟩ = some (.string Y)) ∧ w'.cell? ⟨G + 1, j, none⟩ = some (.int .i64 u) := fun w' h => by
                  have hz := HZ0.out.below h
                  have hu' := HU0.out.below h
                  refine ⟨⟨?_, ?_⟩, ?_⟩
                  · rw [← hX]; exact hz.cell _ (by omega)
                  · rw [← hY]; exact hz.cell _ (by omega)
                  · rw [← hu]; exact hu'.cell _ (by omega)
                have HS := Lib.hid hS
                have hBd := hbw.drew
                have s0 := hS _ hBd
                have s00 := hS _ hbw
                clear hS hX hY hu c1 c2 hsc hXl hYl hul
                go_wp2_with fail
                go_region_held3 (fun w' => (w'.cell? ⟨G, k * 2, none⟩ = some (.string X) ∧ w'.cell? ⟨G, k * 2 + 1, none⟩ = some (.string Y)) ∧ w'.cell? ⟨G + 1, j, none⟩ = some (.int .i64 u))
                  (first | with_reducible exact s0 | with_reducible exact s1)
                  ((go_at_call 19; (with_reducible refine (C1.out _).mono ?_); rintro e y1 ⟨rfl, hb1⟩; have hD1 := below_trans' hBd hBd.size hb1; have s1 := HS.out _ hD1))
                have hD1' := hD1.drew
                have s2 := HS.out _ hD1'
                clear s0 s00 s1
                go_wp2_with fail
                go_region_held3 (fun w' => (w'.cell? ⟨G, k * 2, none⟩ = some (.string X) ∧ w'.cell? ⟨G, k * 2 + 1, none⟩ = some (.string Y)) ∧ w'.cell? ⟨G + 1, j, none⟩ = some (.int .i64 u))
                  (first | with_reducible exact s2 | with_reducible exact s3)
                  ((go_at_call 20; (with_reducible refine (C2.out _).mono ?_); rintro e y2 ⟨rfl, hb2⟩; have hD2 := below_trans' hD1' hD1'.size hb2; have s3 := HS.out _ hD2))
                clear s2 s3
                rcases n4 with n4 | n4
                all_goals
                  cases ok
                  all_goals
                    go_wp2_with fail
                    go_roundg (4 - (j + 1))
                    case measure => have := HRi.out; omega
                    case rel => exact ⟨j + 1, by omega, rfl, by go_num, hD2⟩
              · go_wp2_with fail
                go_roundg (7 - (k + 1))
                case measure => have := HR.out; omega
                case rel => exact ⟨k + 1, by omega, rfl, by go_num, hbw⟩
          · go_wp2_with fail
            go_ret
            exact ⟨rfl, below_trans' hBA hBA.size hbw⟩
end Go.Proofs.YtpligjkbnlfhgaaDoor
