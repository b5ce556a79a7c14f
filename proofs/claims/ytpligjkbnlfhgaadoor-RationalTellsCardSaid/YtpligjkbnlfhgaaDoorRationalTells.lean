/- The walk of RationalTells. -/
import Derived.Test.YtpligjkbnlfhgaaDoorRationalForms
import Derived.BigRegion
import Derived.Test.YtpligjkbnlfhgaaDoorRationalDigits
namespace Go.Proofs.YtpligjkbnlfhgaaDoor
open Go.RowKit

theorem tmod_in (a b : Int) (hb : 0 < b) (hb2 : b ≤ 1000) : -1000 ≤ a.tmod b ∧ a.tmod b ≤ 1000 := by
  have h1 := Int.tmod_lt_of_pos a hb
  have h2 := Int.lt_tmod_of_pos a hb
  omega
theorem of18s (num den : Int) (w : World) (h1 : -9223372036854775808 ≤ num) (h2 : num ≤ 9223372036854775807) (h3 : -9223372036854775808 ≤ den) (h4 : den ≤ 9223372036854775807) :
    Calls Tryd.prog 18 #[.int .i64 num, .int .i64 den] w fun e w' => ∃ A B, e = .returned (.agg #[.string A, .string B]) ∧ (A.size ≤ maxLen ∧ B.size ≤ maxLen) ∧ Below w.heap.size w w' := by
  refine (of18 num den w h1 h2 h3 h4).mono ?_
  rintro e w' ⟨A, B, rfl, hT, hb⟩
  exact ⟨A, B, rfl, hT.lens, hb⟩

/-- What a round of the loop needs of its calls. -/
structure TelC (X1 X2 Y1 Y2 A1 B1 : ByteArray) (o1 : Bool) (A2 B2 : ByteArray) (o2 : Bool) (A3 B3 : ByteArray) (o3 : Bool) (A4 B4 : ByteArray) (o4 : Bool) (n : Int) : Prop where
  a1 : ∀ w, Calls Tryd.prog 27 #[.agg #[.string X1, .string X2], .agg #[.string Y1, .string Y2]] w fun e w' => e = .returned (.tuple #[.agg #[.string A1, .string B1], .bool o1]) ∧ Below w.heap.size w w'
  a2 : ∀ w, Calls Tryd.prog 28 #[.agg #[.string X1, .string X2], .agg #[.string Y1, .string Y2]] w fun e w' => e = .returned (.tuple #[.agg #[.string A1, .string B1], .bool o1]) ∧ Below w.heap.size w w'
  s1 : ∀ w, Calls Tryd.prog 29 #[.agg #[.string X1, .string X2], .agg #[.string Y1, .string Y2]] w fun e w' => e = .returned (.tuple #[.agg #[.string A2, .string B2], .bool o2]) ∧ Below w.heap.size w w'
  s2 : ∀ w, Calls Tryd.prog 32 #[.agg #[.string X1, .string X2], .agg #[.string Y1, .string Y2]] w fun e w' => e = .returned (.tuple #[.agg #[.string A2, .string B2], .bool o2]) ∧ Below w.heap.size w w'
  m1 : ∀ w, Calls Tryd.prog 25 #[.agg #[.string X1, .string X2], .agg #[.string Y1, .string Y2]] w fun e w' => e = .returned (.tuple #[.agg #[.string A3, .string B3], .bool o3]) ∧ Below w.heap.size w w'
  m2 : ∀ w, Calls Tryd.prog 26 #[.agg #[.string X1, .string X2], .agg #[.string Y1, .string Y2]] w fun e w' => e = .returned (.tuple #[.agg #[.string A3, .string B3], .bool o3]) ∧ Below w.heap.size w w'
  d1 : ∀ w, Calls Tryd.prog 30 #[.agg #[.string X1, .string X2], .agg #[.string Y1, .string Y2]] w fun e w' => e = .returned (.tuple #[.agg #[.string A4, .string B4], .bool o4]) ∧ Below w.heap.size w w'
  d2 : ∀ w, Calls Tryd.prog 33 #[.agg #[.string X1, .string X2], .agg #[.string Y1, .string Y2]] w fun e w' => e = .returned (.tuple #[.agg #[.string A4, .string B4], .bool o4]) ∧ Below w.heap.size w w'
  c1 : ∀ w, Calls Tryd.prog 31 #[.agg #[.string X1, .string X2], .agg #[.string Y1, .string Y2]] w fun e w' => e = .returned (.int .i64 n) ∧ Below w.heap.size w w'
  c2 : ∀ w, Calls Tryd.prog 34 #[.agg #[.string X1, .string X2], .agg #[.string Y1, .string Y2]] w fun e w' => e = .returned (.int .i64 n) ∧ Below w.heap.size w w'
theorem telC {X1 X2 Y1 Y2 : ByteArray} (h1 : X1.size ≤ maxLen) (h2 : X2.size ≤ maxLen) (h3 : Y1.size ≤ maxLen) (h4 : Y2.size ≤ maxLen) : ∃ A1 B1 o1 A2 B2 o2 A3 B3 o3 A4 B4 o4 n, TelC X1 X2 Y1 Y2 A1 B1 o1 A2 B2 o2 A3 B3 o3 A4 B4 o4 n := by
  obtain ⟨A1, B1, o1, e1⟩ := txV_any (addT (X1.data.toList, X2.data.toList) (Y1.data.toList, Y2.data.toList))
  obtain ⟨A2, B2, o2, e2⟩ := txV_any (subT (X1.data.toList, X2.data.toList) (Y1.data.toList, Y2.data.toList))
  obtain ⟨A3, B3, o3, e3⟩ := txV_any (mulT (X1.data.toList, X2.data.toList) (Y1.data.toList, Y2.data.toList))
  obtain ⟨A4, B4, o4, e4⟩ := txV_any (divT (X1.data.toList, X2.data.toList) (Y1.data.toList, Y2.data.toList))
  refine ⟨A1, B1, o1, A2, B2, o2, A3, B3, o3, A4, B4, o4, cmpT (X1.data.toList, X2.data.toList) (Y1.data.toList, Y2.data.toList), fun w => ?_, fun w => ?_, fun w => ?_, fun w => ?_, fun w => ?_, fun w => ?_, fun w => ?_, fun w => ?_, fun w => ?_, fun w => ?_⟩
  · have := add27 X1 X2 Y1 Y2 w h1 h2 h3 h4; rwa [e1] at this
  · have := add28 X1 X2 Y1 Y2 w h1 h2 h3 h4; rwa [e1] at this
  · have := sub29 X1 X2 Y1 Y2 w h1 h2 h3 h4; rwa [e2] at this
  · have := sub32 X1 X2 Y1 Y2 w h1 h2 h3 h4; rwa [e2] at this
  · have := mul25 X1 X2 Y1 Y2 w h1 h2 h3 h4; rwa [e3] at this
  · have := mul26 X1 X2 Y1 Y2 w h1 h2 h3 h4; rwa [e3] at this
  · have := div30 X1 X2 Y1 Y2 w h1 h2 h3 h4; rwa [e4] at this
  · have := div33 X1 X2 Y1 Y2 w h1 h2 h3 h4; rwa [e4] at this
  · exact cmp31 X1 X2 Y1 Y2 w h1 h2 h3 h4
  · exact cmp34 X1 X2 Y1 Y2 w h1 h2 h3 h4
theorem set2 {wv : World} {z : Nat} {a b : ByteArray} (hg : wv.heap[z]? = some (.cells #[.string a, .string b] 23 (0, 0))) (A B : ByteArray) :
    ((wv.setCell ⟨z, 0, none⟩ (.string A)).setCell ⟨z, 1, none⟩ (.string B)).heap[z]? = some (.cells #[.string A, .string B] 23 (0, 0)) ∧ ∀ k, k ≠ z → ((wv.setCell ⟨z, 0, none⟩ (.string A)).setCell ⟨z, 1, none⟩ (.string B)).heap[k]? = wv.heap[k]? :=
  ⟨block_set (block_set hg 0 _) 1 _, fun k hk => by rw [Below.heap_setCell _ _ _ _ hk, Below.heap_setCell _ _ _ _ hk]⟩
/-- The cells of sixteen texts. -/
def Z16 (w : World) (g : Nat) (Z : Nat → ByteArray) : Prop := ∃ cs : Array Value, w.heap[g]? = some (.cells cs 42 (0, 0)) ∧ ∀ j, j < 16 → cs[j]? = some (.string (Z j))
theorem Z16.cell {w : World} {g : Nat} {Z : Nat → ByteArray} (h : Z16 w g Z) (j : Nat) (hj : j < 16) : w.cell? ⟨g, j, none⟩ = some (.string (Z j)) := by
  obtain ⟨cs, h1, h2⟩ := h
  rw [cell_of_block h1]; exact h2 j hj
theorem Z16.below {w w' : World} {g : Nat} {Z : Nat → ByteArray} (h : Z16 w g Z) (hb : Below w.heap.size w w') : Z16 w' g Z := by
  obtain ⟨cs, h1, h2⟩ := h
  exact ⟨cs, blk_below hb h1, h2⟩

set_option maxRecDepth 100000 in
set_option maxHeartbeats 8000000 in
theorem rationalTells9 (c0 c1 : List Value) (a2 a3 a4 a5 : Int) (w : World) (w0 : CellsOk rK c0) (w1 : CellsOk rK c1) (w2 : (Lit.int .i64 a2).wf = true) (w3 : (Lit.int .i64 a3).wf = true) (w4 : (Lit.int .i64 a4).wf = true) (w5 : (Lit.int .i64 a5).wf = true) :
    Calls Tryd.prog 9 #[.agg c0.toArray, .agg c1.toArray, .int .i64 a2, .int .i64 a3, .int .i64 a4, .int .i64 a5] w fun e w' => e = .returned (.bool true) ∧ Below w.heap.size w w' := by
  obtain ⟨N, D, rfl, hN, hD⟩ := rK_open w0
  obtain ⟨M, E, rfl, hM, hE⟩ := rK_open w1
  obtain ⟨b2, d2⟩ := i64_bd w2
  obtain ⟨b3, d3⟩ := i64_bd w3
  obtain ⟨b4, d4⟩ := i64_bd w4
  obtain ⟨b5, d5⟩ := i64_bd w5
  have hNb := hN
  have hDb := hD
  have hMb := hM
  have hEb := hE
  unfold maxLen at hNb hDb hMb hEb
  have t2 := tmod_in a2 100 (by decide) (by decide)
  have t3 := tmod_in a3 10 (by decide) (by decide)
  have t4 := tmod_in a4 100 (by decide) (by decide)
  have t5 := tmod_in a5 10 (by decide) (by decide)
  have O1 := Lib.hid (fun w => of18s a2 a3 w b2 d2 b3 d3)
  have O2 := Lib.hid (fun w => of18s a4 a5 w b4 d4 b5 d5)
  have O3 := Lib.hid (fun w => of18s (a2.tmod 100) (a3.tmod 10) w (by omega) (by omega) (by omega) (by omega))
  have O4 := Lib.hid (fun w => of18s (a4.tmod 100) (a5.tmod 10) w (by omega) (by omega) (by omega) (by omega))
  obtain ⟨hbW, g0, g1⟩ := allocs2' w #[.string N, .string D] #[.string M, .string E] 23 23
  clear w0 w1 w2 w3 w4 w5 t2 t3 t4 t5
  go_enter Tryd.func9, Tryd.ntmps9
  go_wp2_with fail
  generalize (w.alloc (.cells #[.string N, .string D] 23)).alloc (.cells #[.string M, .string E] 23) = W at *
  refine (awake17 _).mono ?_
  rintro e u0 ⟨rfl, hb0⟩
  have G0 := blk_below hb0 g0
  have G1 := blk_below hb0 g1
  have hB0 := below_trans' hbW hbW.size hb0
  have k0 := cells2 G0
  have k1 := cells2 G1
  clear g0 g1 hb0
  by_cases hb1 : (500 : Int) < (N.size : Int)
  · go_wp2_with fail
    go_ret
    exact ⟨rfl, hB0⟩
  · by_cases hb2 : (500 : Int) < (D.size : Int)
    · go_wp2_with fail
      go_ret
      exact ⟨rfl, hB0⟩
    · by_cases hb3 : (500 : Int) < (M.size : Int)
      · go_wp2_with fail
        go_ret
        exact ⟨rfl, hB0⟩
      · by_cases hb4 : (500 : Int) < (E.size : Int)
        · go_wp2_with fail
          go_ret
          exact ⟨rfl, hB0⟩
        · go_wp2_with fail
          clear k0 k1
          have hbd : Below u0.heap.size u0 u0.drew := (Below.refl _ _).drew
          have hS : ∀ w', Below u0.heap.size u0 w' → (w'.cell? ⟨w.heap.size, 0, none⟩ = some (.string N) ∧ w'.cell? ⟨w.heap.size, 1, none⟩ = some (.string D)) ∧ (w'.cell? ⟨w.heap.size + 1, 0, none⟩ = some (.string M) ∧ w'.cell? ⟨w.heap.size + 1, 1, none⟩ = some (.string E)) := fun w' h => ⟨cells2 (blk_below h G0), cells2 (blk_below h G1)⟩
          have s0 := hS _ hbd
          have HS := Lib.hid hS
          clear hS
          go_region_held3 (fun w' => (w'.cell? ⟨w.heap.size, 0, none⟩ = some (.string N) ∧ w'.cell? ⟨w.heap.size, 1, none⟩ = some (.string D)) ∧ (w'.cell? ⟨w.heap.size + 1, 0, none⟩ = some (.string M) ∧ w'.cell? ⟨w.heap.size + 1, 1, none⟩ = some (.string E)))
            (first | with_reducible exact s0 | with_reducible exact s1 | with_reducible exact s2 | with_reducible exact s3 | with_reducible exact s4 | with_reducible exact s5 | exact HS.out _ (hC5.alloc hC5.size _))
            (first
              | (go_at_call 18; (with_reducible refine (O1.out u0.drew).mono ?_); rintro e x1 ⟨A1, B1, rfl, z1, hb1⟩; have hC1 := below_trans' hbd hbd.size hb1; have s1 := HS.out _ hC1)
              | (go_at_call 18; (with_reducible refine (O2.out x1).mono ?_); rintro e x2 ⟨A2, B2, rfl, z2, hb2⟩; have hC2 := below_trans' hC1 hC1.size hb2; have s2 := HS.out _ hC2)
              | (go_at_call 18; (with_reducible refine (O3.out x2).mono ?_); rintro e x3 ⟨A3, B3, rfl, z3, hb3⟩; have hC3 := below_trans' hC2 hC2.size hb3; have s3 := HS.out _ hC3)
              | (go_at_call 18; (with_reducible refine (O4.out x3).mono ?_); rintro e x4 ⟨A4, B4, rfl, z4, hb4⟩; have hC4 := below_trans' hC3 hC3.size hb4; have s4 := HS.out _ hC4)
              | (go_at_call 18; (with_reducible refine (O1.out x4).mono ?_); rintro e x5 ⟨A5, B5, rfl, z5, hb5⟩; have hC5 := below_trans' hC4 hC4.size hb5; have s5 := HS.out _ hC5))
          all_goals
            obtain ⟨Z, hZ⟩ : ∃ Z : Nat → ByteArray, Z = fun j => [N, D, M, E, A1, B1, A2, B2, A3, B3, A4, B4, A5, B5, M, E].getD j N := ⟨_, rfl⟩
            have hz0 : Z16 (x5.alloc (.cells #[.string N, .string D, .string M, .string E, .string A1, .string B1, .string A2, .string B2, .string A3, .string B3, .string A4, .string B4, .string A5, .string B5, .string M, .string E] 42)) x5.heap.size Z := by
              refine ⟨_, heap_alloc_new x5 _, fun j hj => ?_⟩
              rw [hZ]
              match j, hj with
              | 0, _ => rfl
              | 1, _ => rfl
              | 2, _ => rfl
              | 3, _ => rfl
              | 4, _ => rfl
              | 5, _ => rfl
              | 6, _ => rfl
              | 7, _ => rfl
              | 8, _ => rfl
              | 9, _ => rfl
              | 10, _ => rfl
              | 11, _ => rfl
              | 12, _ => rfl
              | 13, _ => rfl
              | 14, _ => rfl
              | 15, _ => rfl
              | j + 16, h => exact absurd h (by omega)
            have hzl : ∀ j, (Z j).size ≤ maxLen := fun j => by
              rw [hZ]
              show ([N, D, M, E, A1, B1, A2, B2, A3, B3, A4, B4, A5, B5, M, E].getD j N).size ≤ maxLen
              rw [List.getD_eq_getElem?_getD]
              cases hj : [N, D, M, E, A1, B1, A2, B2, A3, B3, A4, B4, A5, B5, M, E][j]? with
              | none => exact hN
              | some t =>
                have hm := List.mem_of_getElem? hj
                simp only [List.mem_cons, List.not_mem_nil, or_false] at hm
                show t.size ≤ maxLen
                rcases hm with rfl | rfl | rfl | rfl | rfl | rfl | rfl | rfl | rfl | rfl | rfl | rfl | rfl | rfl | rfl | rfl <;> first | assumption | exact z1.1 | exact z1.2 | exact z2.1 | exact z2.2 | exact z3.1 | exact z3.2 | exact z4.1 | exact z4.2 | exact z5.1 | exact z5.2
            have HZL := Lib.hid hzl
            have hBA := below_trans' hB0 hB0.size (hC5.alloc hC5.size (.cells #[.string N, .string D, .string M, .string E, .string A1, .string B1, .string A2, .string B2, .string A3, .string B3, .string A4, .string B4, .string A5, .string B5, .string M, .string E] 42))
            have HZ0 := Lib.hid hz0
            clear hZ hz0 hzl s0 s1 s2 s3 s4 s5 hC1 hC2 hC3 hC4 hC5 G0 G1
            generalize hGb : x5.heap.size = G at *
            go_wp2_with fail
            generalize x5.alloc (.cells #[.string N, .string D, .string M, .string E, .string A1, .string B1, .string A2, .string B2, .string A3, .string B3, .string A4, .string B4, .string A5, .string B5, .string M, .string E] 42) = wA at *
            go_loopg [14, 15, 16, 17, 18, 19, 20] 4 (fun r ii _ _ _ _ _ _ wr => ∃ (k : Nat) (I : Int), k ≤ 4 ∧ r = 4 - k ∧ ii = .int .i64 I ∧ I = k ∧ Below wA.heap.size wA wr)
            case atStart => exact ⟨0, 0, by omega, rfl, rfl, rfl, Below.refl _ _⟩
            case round =>
              obtain ⟨k, I, hk, hr, rfl, hI, hbw⟩ := hrel
              have HR := Lib.hid hr
              have HI := Lib.hid hI
              clear hr hI
              by_cases hk4 : k < 4
              · have hzw := HZ0.out.below hbw
                have cc0 := hzw.cell 0 (by decide)
                have cc1 := hzw.cell 1 (by decide)
                have cc2 := hzw.cell 2 (by decide)
                have cc3 := hzw.cell 3 (by decide)
                have cc4 := hzw.cell 4 (by decide)
                have cc5 := hzw.cell 5 (by decide)
                have cc6 := hzw.cell 6 (by decide)
                have cc7 := hzw.cell 7 (by decide)
                have cc8 := hzw.cell 8 (by decide)
                have cc9 := hzw.cell 9 (by decide)
                have cc10 := hzw.cell 10 (by decide)
                have cc11 := hzw.cell 11 (by decide)
                have cc12 := hzw.cell 12 (by decide)
                have cc13 := hzw.cell 13 (by decide)
                have cc14 := hzw.cell 14 (by decide)
                have cc15 := hzw.cell 15 (by decide)
                have hI4 : I = 0 ∨ I = 1 ∨ I = 2 ∨ I = 3 := by have := HI.out; omega
                have hGlt : G < wr.heap.size := by obtain ⟨cs, h, -⟩ := hzw; exact lt_of_blk h
                have HZW := Lib.hid hzw
                have hk4I : I < 4 := by have := HI.out; omega
                have hI0 : 0 ≤ I := by have := HI.out; omega
                clear hzw
                go_upto_region 9 with fail
                go_cut [15, 16] (fun s15 s16 wx => ∃ (g h : Nat) (X1 X2 Y1 Y2 : ByteArray), s15 = .pointer (some ⟨g, 0, none⟩) ∧ s16 = .pointer (some ⟨h, 0, none⟩) ∧ wx.heap[g]? = some (.cells #[.string X1, .string X2] 23 (0, 0)) ∧ wx.heap[h]? = some (.cells #[.string Y1, .string Y2] 23 (0, 0)) ∧ (X1.size ≤ maxLen ∧ X2.size ≤ maxLen ∧ Y1.size ≤ maxLen ∧ Y2.size ≤ maxLen) ∧ Below wA.heap.size wA wx)
                case first =>
                  rcases hI4 with rfl | rfl | rfl | rfl
                  · go_region
                    all_goals
                      go_wp2_with fail
                      go_meet
                      case rel => first
                        | exact ⟨wr.heap.size, wr.heap.size + 1, Z 0, Z 1, Z 2, Z 3, rfl, rfl, (allocs2' wr _ _ 23 23).2.1, (allocs2' wr _ _ 23 23).2.2, ⟨HZL.out _, HZL.out _, HZL.out _, HZL.out _⟩, (below_trans' hbw hbw.size (allocs2' wr _ _ 23 23).1).drew⟩
                        | exact ⟨wr.heap.size + 1, wr.heap.size, Z 0, Z 1, Z 2, Z 3, rfl, rfl, (allocs2' wr _ _ 23 23).2.2, (allocs2' wr _ _ 23 23).2.1, ⟨HZL.out _, HZL.out _, HZL.out _, HZL.out _⟩, (below_trans' hbw hbw.size (allocs2' wr _ _ 23 23).1).drew⟩
                  · go_region
                    all_goals
                      go_wp2_with fail
                      go_meet
                      case rel => first
                        | exact ⟨wr.heap.size, wr.heap.size + 1, Z 4, Z 5, Z 6, Z 7, rfl, rfl, (allocs2' wr _ _ 23 23).2.1, (allocs2' wr _ _ 23 23).2.2, ⟨HZL.out _, HZL.out _, HZL.out _, HZL.out _⟩, (below_trans' hbw hbw.size (allocs2' wr _ _ 23 23).1).drew⟩
                        | exact ⟨wr.heap.size + 1, wr.heap.size, Z 4, Z 5, Z 6, Z 7, rfl, rfl, (allocs2' wr _ _ 23 23).2.2, (allocs2' wr _ _ 23 23).2.1, ⟨HZL.out _, HZL.out _, HZL.out _, HZL.out _⟩, (below_trans' hbw hbw.size (allocs2' wr _ _ 23 23).1).drew⟩
                  · go_region
                    all_goals
                      go_wp2_with fail
                      go_meet
                      case rel => first
                        | exact ⟨wr.heap.size, wr.heap.size + 1, Z 8, Z 9, Z 10, Z 11, rfl, rfl, (allocs2' wr _ _ 23 23).2.1, (allocs2' wr _ _ 23 23).2.2, ⟨HZL.out _, HZL.out _, HZL.out _, HZL.out _⟩, (below_trans' hbw hbw.size (allocs2' wr _ _ 23 23).1).drew⟩
                        | exact ⟨wr.heap.size + 1, wr.heap.size, Z 8, Z 9, Z 10, Z 11, rfl, rfl, (allocs2' wr _ _ 23 23).2.2, (allocs2' wr _ _ 23 23).2.1, ⟨HZL.out _, HZL.out _, HZL.out _, HZL.out _⟩, (below_trans' hbw hbw.size (allocs2' wr _ _ 23 23).1).drew⟩
                  · go_region
                    all_goals
                      go_wp2_with fail
                      go_meet
                      case rel => first
                        | exact ⟨wr.heap.size, wr.heap.size + 1, Z 12, Z 13, Z 14, Z 15, rfl, rfl, (allocs2' wr _ _ 23 23).2.1, (allocs2' wr _ _ 23 23).2.2, ⟨HZL.out _, HZL.out _, HZL.out _, HZL.out _⟩, (below_trans' hbw hbw.size (allocs2' wr _ _ 23 23).1).drew⟩
                        | exact ⟨wr.heap.size + 1, wr.heap.size, Z 12, Z 13, Z 14, Z 15, rfl, rfl, (allocs2' wr _ _ 23 23).2.2, (allocs2' wr _ _ 23 23).2.1, ⟨HZL.out _, HZL.out _, HZL.out _, HZL.out _⟩, (below_trans' hbw hbw.size (allocs2' wr _ _ 23 23).1).drew⟩
                case rest =>
                  obtain ⟨b15, b16, X1, X2, Y1, Y2, rfl, rfl, h15, h16, ⟨sx1, sx2, sy1, sy2⟩, hB⟩ := hcut
                  obtain ⟨P1, Q1, o1, P2, Q2, o2, P3, Q3, o3, P4, Q4, o4, n, hC⟩ := telC sx1 sx2 sy1 sy2
                  have C1 := Lib.hid hC.a1
                  have C2 := Lib.hid hC.a2
                  have C3 := Lib.hid hC.s1
                  have C4 := Lib.hid hC.s2
                  have C5 := Lib.hid hC.m1
                  have C6 := Lib.hid hC.m2
                  have C7 := Lib.hid hC.d1
                  have C8 := Lib.hid hC.d2
                  have C9 := Lib.hid hC.c1
                  have C0 := Lib.hid hC.c2
                  have lt15 := lt_of_blk h15
                  have lt16 := lt_of_blk h16
                  have q15 := cells2 h15
                  have q16 := cells2 h16
                  have H15 := Lib.hid h15
                  have H16 := Lib.hid h16
                  have hWs := hB.size
                  clear hC sx1 sx2 sy1 sy2 h15 h16 cc0 cc1 cc2 cc3 cc4 cc5 cc6 cc7 cc8 cc9 cc10 cc11 cc12 cc13 cc14 cc15 hI4 hbw hGlt HZW
                  go_wp2_with fail
                  refine (C1.out _).mono ?_
                  rintro e u1 ⟨rfl, hb⟩
                  have hs1 := hb.size
                  replace hb := below_trans' hb hb.size ((Below.refl u1.heap.size u1).alloc (Nat.le_refl _) (.cells #[.string P1, .string Q1] 23))
                  replace H15 := Lib.hid (blk_below hb H15.out)
                  replace H16 := Lib.hid (blk_below hb H16.out)
                  have H17 := Lib.hid (heap_alloc_new u1 (.cells #[.string P1, .string Q1] 23))
                  replace hB := below_trans' hB hB.size hb
                  clear q15 q16
                  have q15 := cells2 H15.out
                  have q16 := cells2 H16.out
                  clear hb
                  go_wp2_with fail
                  refine (C2.out _).mono ?_
                  rintro e u2 ⟨rfl, hb⟩
                  have hs2 : u1.heap.size < u2.heap.size := lt_of_blk (blk_below hb H17.out)
                  replace hb := below_trans' hb hb.size ((Below.refl u2.heap.size u2).alloc (Nat.le_refl _) (.cells #[.string P1, .string Q1] 23))
                  replace H15 := Lib.hid (blk_below hb H15.out)
                  replace H16 := Lib.hid (blk_below hb H16.out)
                  replace H17 := Lib.hid (blk_below hb H17.out)
                  have H19 := Lib.hid (heap_alloc_new u2 (.cells #[.string P1, .string Q1] 23))
                  replace hB := below_trans' hB hB.size hb
                  clear q15 q16
                  have q15 := cells2 H15.out
                  have q16 := cells2 H16.out
                  have q17 := cells2 H17.out
                  have q19 := cells2 H19.out
                  have n1 : b15 ≠ u1.heap.size := by omega
                  have n2 : b16 ≠ u1.heap.size := by omega
                  have n3 : b15 ≠ u2.heap.size := by omega
                  have n4 : b16 ≠ u2.heap.size := by omega
                  have n5 : u1.heap.size ≠ u2.heap.size := by omega
                  have n6 : wA.heap.size ≤ u1.heap.size := by omega
                  have n7 : wA.heap.size ≤ u2.heap.size := by omega
                  have N1 := Lib.hid n1
                  have N2 := Lib.hid n2
                  have N3 := Lib.hid n3
                  have N4 := Lib.hid n4
                  have N5 := Lib.hid n5
                  clear hb n1 n2 n3 n4 n5 lt15 lt16 hs1 hs2 hWs
                  go_wp2_with fail
                  refine (C3.out _).mono ?_
                  rintro e u3 ⟨rfl, hb⟩
                  replace H15 := Lib.hid (blk_below hb H15.out)
                  replace H16 := Lib.hid (blk_below hb H16.out)
                  replace H17 := Lib.hid (blk_below hb H17.out)
                  replace H19 := Lib.hid (blk_below hb H19.out)
                  replace hB := below_trans' hB hB.size hb
                  clear q15 q16 q17 q19
                  have z17 := cells2 H17.out
                  have f17 := free_of_block H17.out
                  have st := set2 H17.out P2 Q2
                  have hBn := below_sets2 (z := u1.heap.size) hB n6 (.string P2) (.string Q2)
                  replace H17 := Lib.hid st.1
                  replace H15 := Lib.hid ((st.2 _ N1.out).trans H15.out)
                  replace H16 := Lib.hid ((st.2 _ N2.out).trans H16.out)
                  replace H19 := Lib.hid ((st.2 _ (Ne.symm N5.out)).trans H19.out)
                  replace hB := hBn
                  have q15 := cells2 H15.out
                  have q16 := cells2 H16.out
                  have q17 := cells2 H17.out
                  have q19 := cells2 H19.out
                  clear st hBn hb
                  go_wp2_with fail
                  refine (C4.out _).mono ?_
                  rintro e u4 ⟨rfl, hb⟩
                  clear z17 f17
                  replace H15 := Lib.hid (blk_below hb H15.out)
                  replace H16 := Lib.hid (blk_below hb H16.out)
                  replace H17 := Lib.hid (blk_below hb H17.out)
                  replace H19 := Lib.hid (blk_below hb H19.out)
                  replace hB := below_trans' hB hB.size hb
                  clear q15 q16 q17 q19
                  have z17 := cells2 H19.out
                  have f17 := free_of_block H19.out
                  have st := set2 H19.out P2 Q2
                  have hBn := below_sets2 (z := u2.heap.size) hB n7 (.string P2) (.string Q2)
                  replace H19 := Lib.hid st.1
                  replace H15 := Lib.hid ((st.2 _ N3.out).trans H15.out)
                  replace H16 := Lib.hid ((st.2 _ N4.out).trans H16.out)
                  replace H17 := Lib.hid ((st.2 _ N5.out).trans H17.out)
                  replace hB := hBn
                  have q15 := cells2 H15.out
                  have q16 := cells2 H16.out
                  have q17 := cells2 H17.out
                  have q19 := cells2 H19.out
                  clear st hBn hb
                  go_wp2_with fail
                  refine (C5.out _).mono ?_
                  rintro e u5 ⟨rfl, hb⟩
                  clear z17 f17
                  replace H15 := Lib.hid (blk_below hb H15.out)
                  replace H16 := Lib.hid (blk_below hb H16.out)
                  replace H17 := Lib.hid (blk_below hb H17.out)
                  replace H19 := Lib.hid (blk_below hb H19.out)
                  replace hB := below_trans' hB hB.size hb
                  clear q15 q16 q17 q19
                  have z17 := cells2 H17.out
                  have f17 := free_of_block H17.out
                  have st := set2 H17.out P3 Q3
                  have hBn := below_sets2 (z := u1.heap.size) hB n6 (.string P3) (.string Q3)
                  replace H17 := Lib.hid st.1
                  replace H15 := Lib.hid ((st.2 _ N1.out).trans H15.out)
                  replace H16 := Lib.hid ((st.2 _ N2.out).trans H16.out)
                  replace H19 := Lib.hid ((st.2 _ (Ne.symm N5.out)).trans H19.out)
                  replace hB := hBn
                  have q15 := cells2 H15.out
                  have q16 := cells2 H16.out
                  have q17 := cells2 H17.out
                  have q19 := cells2 H19.out
                  clear st hBn hb
                  go_wp2_with fail
                  refine (C6.out _).mono ?_
                  rintro e u6 ⟨rfl, hb⟩
                  clear z17 f17
                  replace H15 := Lib.hid (blk_below hb H15.out)
                  replace H16 := Lib.hid (blk_below hb H16.out)
                  replace H17 := Lib.hid (blk_below hb H17.out)
                  replace H19 := Lib.hid (blk_below hb H19.out)
                  replace hB := below_trans' hB hB.size hb
                  clear q15 q16 q17 q19
                  have z17 := cells2 H19.out
                  have f17 := free_of_block H19.out
                  have st := set2 H19.out P3 Q3
                  have hBn := below_sets2 (z := u2.heap.size) hB n7 (.string P3) (.string Q3)
                  replace H19 := Lib.hid st.1
                  replace H15 := Lib.hid ((st.2 _ N3.out).trans H15.out)
                  replace H16 := Lib.hid ((st.2 _ N4.out).trans H16.out)
                  replace H17 := Lib.hid ((st.2 _ N5.out).trans H17.out)
                  replace hB := hBn
                  have q15 := cells2 H15.out
                  have q16 := cells2 H16.out
                  have q17 := cells2 H17.out
                  have q19 := cells2 H19.out
                  clear st hBn hb
                  go_wp2_with fail
                  refine (C7.out _).mono ?_
                  rintro e u7 ⟨rfl, hb⟩
                  clear z17 f17
                  replace H15 := Lib.hid (blk_below hb H15.out)
                  replace H16 := Lib.hid (blk_below hb H16.out)
                  replace H17 := Lib.hid (blk_below hb H17.out)
                  replace H19 := Lib.hid (blk_below hb H19.out)
                  replace hB := below_trans' hB hB.size hb
                  clear q15 q16 q17 q19
                  have z17 := cells2 H17.out
                  have f17 := free_of_block H17.out
                  have st := set2 H17.out P4 Q4
                  have hBn := below_sets2 (z := u1.heap.size) hB n6 (.string P4) (.string Q4)
                  replace H17 := Lib.hid st.1
                  replace H15 := Lib.hid ((st.2 _ N1.out).trans H15.out)
                  replace H16 := Lib.hid ((st.2 _ N2.out).trans H16.out)
                  replace H19 := Lib.hid ((st.2 _ (Ne.symm N5.out)).trans H19.out)
                  replace hB := hBn
                  have q15 := cells2 H15.out
                  have q16 := cells2 H16.out
                  have q17 := cells2 H17.out
                  have q19 := cells2 H19.out
                  clear st hBn hb
                  go_wp2_with fail
                  refine (C8.out _).mono ?_
                  rintro e u8 ⟨rfl, hb⟩
                  clear z17 f17
                  replace H15 := Lib.hid (blk_below hb H15.out)
                  replace H16 := Lib.hid (blk_below hb H16.out)
                  replace H17 := Lib.hid (blk_below hb H17.out)
                  replace H19 := Lib.hid (blk_below hb H19.out)
                  replace hB := below_trans' hB hB.size hb
                  clear q15 q16 q17 q19
                  have z17 := cells2 H19.out
                  have f17 := free_of_block H19.out
                  have st := set2 H19.out P4 Q4
                  have hBn := below_sets2 (z := u2.heap.size) hB n7 (.string P4) (.string Q4)
                  replace H19 := Lib.hid st.1
                  replace H15 := Lib.hid ((st.2 _ N3.out).trans H15.out)
                  replace H16 := Lib.hid ((st.2 _ N4.out).trans H16.out)
                  replace H17 := Lib.hid ((st.2 _ N5.out).trans H17.out)
                  replace hB := hBn
                  have q15 := cells2 H15.out
                  have q16 := cells2 H16.out
                  have q17 := cells2 H17.out
                  have q19 := cells2 H19.out
                  clear st hBn hb
                  go_upto_region 24 with fail
                  clear z17 f17 q15 q16 q17 q19
                  generalize (u8.setCell ⟨u2.heap.size, 0, none⟩ (.string P4)).setCell ⟨u2.heap.size, 1, none⟩ (.string Q4) = w9 at *
                  have hbd : Below w9.heap.size w9 w9.drew := (Below.refl _ _).drew
                  have hS : ∀ w', Below w9.heap.size w9 w' → ((w'.cell? ⟨b15, 0, none⟩ = some (.string X1) ∧ w'.cell? ⟨b15, 1, none⟩ = some (.string X2)) ∧ (w'.cell? ⟨b16, 0, none⟩ = some (.string Y1) ∧ w'.cell? ⟨b16, 1, none⟩ = some (.string Y2))) ∧ ((w'.cell? ⟨u1.heap.size, 0, none⟩ = some (.string P4) ∧ w'.cell? ⟨u1.heap.size, 1, none⟩ = some (.string Q4)) ∧ (w'.cell? ⟨u2.heap.size, 0, none⟩ = some (.string P4) ∧ w'.cell? ⟨u2.heap.size, 1, none⟩ = some (.string Q4))) := fun w' h => ⟨⟨cells2 (blk_below h H15.out), cells2 (blk_below h H16.out)⟩, ⟨cells2 (blk_below h H17.out), cells2 (blk_below h H19.out)⟩⟩
                  have s0 := hS _ hbd
                  have HS := Lib.hid hS
                  have hnn : (n != n) = false := by simp
                  have hoo : (o4 != o4) = false := by simp
                  clear hS
                  go_region_held3 (fun w' => ((w'.cell? ⟨b15, 0, none⟩ = some (.string X1) ∧ w'.cell? ⟨b15, 1, none⟩ = some (.string X2)) ∧ (w'.cell? ⟨b16, 0, none⟩ = some (.string Y1) ∧ w'.cell? ⟨b16, 1, none⟩ = some (.string Y2))) ∧ ((w'.cell? ⟨u1.heap.size, 0, none⟩ = some (.string P4) ∧ w'.cell? ⟨u1.heap.size, 1, none⟩ = some (.string Q4)) ∧ (w'.cell? ⟨u2.heap.size, 0, none⟩ = some (.string P4) ∧ w'.cell? ⟨u2.heap.size, 1, none⟩ = some (.string Q4))))
                    (first | with_reducible exact s0 | with_reducible exact s1 | with_reducible exact s2)
                    (first
                      | (go_at_call 31; (with_reducible refine (C9.out _).mono ?_); rintro e x1' ⟨rfl, hb1'⟩; have hD1 := below_trans' hbd hbd.size hb1'; have s1 := HS.out _ hD1)
                      | (go_at_call 34; (with_reducible refine (C0.out _).mono ?_); rintro e x2' ⟨rfl, hb2'⟩; have hD2 := below_trans' hD1 hD1.size hb2'; have s2 := HS.out _ hD2))
                  all_goals
                    have hBz := below_trans' hB hB.size hD2
                    clear s0 s1 s2
                    go_wp2_with fail
                    go_roundg (4 - (k + 1))
                    case measure => have := HR.out; omega
                    case rel => exact ⟨k + 1, I + 1, by omega, rfl, rfl, by have := HI.out; omega, hBz⟩
              · have hI5 : ¬ I < 4 := by have := HI.out; omega
                go_wp2_with fail
                go_ret
                exact ⟨rfl, below_trans' hBA hBA.size hbw⟩
end Go.Proofs.YtpligjkbnlfhgaaDoor
