/- The walk of IntervalFractions. -/
import Derived.Test.YtpligjkbnlfhgaaDoorFra0
import Derived.Test.YtpligjkbnlfhgaaDoorAwk
import Derived.Test.YtpligjkbnlfhgaaDoorEnc1
import Derived.Test.YtpligjkbnlfhgaaDoorIvQ
import Derived.Test.YtpligjkbnlfhgaaDoorEst1
import Derived.Test.YtpligjkbnlfhgaaDoorArgs
import Derived.IntWalk
namespace Go.Proofs.YtpligjkbnlfhgaaDoor
open Go.RowKit

def rK : List CK := [.str, .str]
theorem rK_open {c : List Value} (h : CellsOk rK c) : ∃ N D : ByteArray, c = [.string N, .string D] ∧ N.size ≤ maxLen ∧ D.size ≤ maxLen := by
  match c, h with
  | [_, _], ⟨⟨N, h1, h2⟩, ⟨D, h3, h4⟩, _⟩ => subst h1; subst h3; exact ⟨N, D, rfl, h2, h4⟩
theorem i16_bd {a : Int} (h : (Lit.int .i16 a).wf = true) : -32768 ≤ a ∧ a ≤ 32767 := by
  simpa [Lit.wf, IntKind.min, IntKind.max, IntKind.signed, IntKind.bits] using h
theorem i64_bd {a : Int} (h : (Lit.int .i64 a).wf = true) : -9223372036854775808 ≤ a ∧ a ≤ 9223372036854775807 := by
  simpa [Lit.wf, IntKind.min, IntKind.max, IntKind.signed, IntKind.bits] using h
theorem u8_bd' {a : Int} (h : (Lit.int .u8 a).wf = true) : 0 ≤ a ∧ a ≤ 255 := by
  simpa [Lit.wf, IntKind.min, IntKind.max, IntKind.signed, IntKind.bits] using h
theorem tmod_in' (a b : Int) (hb : 0 < b) (hb2 : b ≤ 1000) : -1000 ≤ a.tmod b ∧ a.tmod b ≤ 1000 := by
  have h1 := Int.tmod_lt_of_pos a hb
  have h2 := Int.lt_tmod_of_pos a hb
  omega

/-- The cells of six texts. -/
def Z6 (w : World) (g : Nat) (Z : Nat → ByteArray) : Prop := ∃ (cs : Array Value) (t : TypeId), w.heap[g]? = some (.cells cs t (0, 0)) ∧ ∀ j, j < 6 → cs[j]? = some (.string (Z j))
theorem Z6.cell {w : World} {g : Nat} {Z : Nat → ByteArray} (h : Z6 w g Z) (j : Nat) (hj : j < 6) : w.cell? ⟨g, j, none⟩ = some (.string (Z j)) := by
  obtain ⟨cs, t, h1, h2⟩ := h
  rw [cell_of_block h1]; exact h2 j hj
theorem Z6.below {w w' : World} {g : Nat} {Z : Nat → ByteArray} (h : Z6 w g Z) (hb : Below w.heap.size w w') : Z6 w' g Z := by
  obtain ⟨cs, t, h1, h2⟩ := h
  exact ⟨cs, t, blk_below hb h1, h2⟩
theorem of22a (num den : Int) (w : World) (h1 : -9223372036854775808 ≤ num) (h2 : num ≤ 9223372036854775807) (h3 : -9223372036854775808 ≤ den) (h4 : den ≤ 9223372036854775807) :
    Calls Tryd.prog 22 #[.int .i64 num, .int .i64 den] w fun e w' => ∃ A B ok, e = .returned (.tuple #[.agg #[.string A, .string B], .bool ok]) ∧ (A.size ≤ maxLen ∧ B.size ≤ maxLen) ∧ Below w.heap.size w w' := by
  refine (of22 num den w h1 h2 h3 h4).mono ?_
  rintro e w' ⟨rfl, hb⟩
  have hV : ofT num den = none ∨ ∃ y, fitsR y ∧ ofT num den = wrR y := by
    unfold ofT
    split
    · exact .inl rfl
    · by_cases hf : fitsR (ratP (decide (num < 0) != decide (den < 0)) num.natAbs den.natAbs)
      · exact .inr ⟨_, hf, rfl⟩
      · left; unfold wrR; rw [if_neg hf]
  obtain ⟨A, B, ok, h1, h2, h3, -⟩ := txV_any hV
  exact ⟨A, B, ok, by rw [h1], ⟨h2, h3⟩, hb⟩
theorem mod7 (c : Int) : -6 ≤ c.tmod 7 ∧ c.tmod 7 ≤ 6 := by
  have h1 := Int.tmod_lt_of_pos c (b := 7) (by decide)
  have h2 := Int.lt_tmod_of_pos c (b := 7) (by decide)
  omega

set_option maxRecDepth 100000 in
set_option maxHeartbeats 16000000 in
theorem intervalFractions15 (c0 : List Value) (a1 a2 a3 a4 a5 : Int) (w : World) (w0 : CellsOk rK c0) (w1 : (Lit.int .i64 a1).wf = true) (w2 : (Lit.int .i64 a2).wf = true) (w3 : (Lit.int .i64 a3).wf = true) (_w4 : (Lit.int .i64 a4).wf = true) (w5 : (Lit.int .u8 a5).wf = true) :
    Calls Tryd.prog 15 #[.agg c0.toArray, .int .i64 a1, .int .i64 a2, .int .i64 a3, .int .i64 a4, .int .u8 a5] w fun e w' => e = .returned (.bool true) ∧ Below w.heap.size w w' := by
  obtain ⟨N, D, rfl, hN, hD⟩ := rK_open w0
  obtain ⟨b1, d1⟩ := i64_bd w1
  obtain ⟨b2, d2⟩ := i64_bd w2
  obtain ⟨b3, d3⟩ := i64_bd w3
  have b5 := u8_bd' w5
  have hNb := hN
  have hDb := hD
  unfold maxLen at hNb hDb
  have t1 := tmod_in' a1 1000 (by decide) (by decide)
  have t3 := mod7 a3
  have t4 := mulI_bd (a := 6) (b := 6) (by decide) t3 t3
  have hmx : -9223372036854775808 ≤ max 1 a2 ∧ max 1 a2 ≤ 9223372036854775807 := by omega
  have O1 := Lib.hid (fun w => of22a a1 (max 1 a2) w b1 d1 hmx.1 hmx.2)
  have O2 := Lib.hid (fun w => of22a (a1.tmod 1000) (1 + a3.tmod 7 * a3.tmod 7) w (by omega) (by omega) (by omega) (by omega))
  have O3 := Lib.hid (fun w => made6 a3 a4 a5 w b5)
  have g0 := heap_alloc_new w (.cells #[.string N, .string D] 23)
  have hbW : Below w.heap.size w (w.alloc (.cells #[.string N, .string D] 23)) := (Below.refl _ _).alloc (Nat.le_refl _) _
  clear w0 w1 w2 w3 _w4 w5 t1 hmx
  go_enter Tryd.func15, Tryd.ntmps15
  go_wp2_with fail
  generalize w.alloc (.cells #[.string N, .string D] 23) = W at *
  refine (awake47 _).mono ?_
  rintro e u0 ⟨rfl, hb0⟩
  have G0 := blk_below hb0 g0
  have hB0 := below_trans' hbW hbW.size hb0
  have k0 := cells2 G0
  clear g0 hb0
  by_cases hb1 : (500 : Int) < (N.size : Int)
  · go_wp2_with fail
    go_ret
    exact ⟨rfl, hB0⟩
  · by_cases hb2 : (500 : Int) < (D.size : Int)
    · go_wp2_with fail
      go_ret
      exact ⟨rfl, hB0⟩
    · go_wp2_with fail
      refine (O1.out _).mono ?_
      rintro e x1 ⟨A1, B1, ok1, rfl, z1, hx1⟩
      have hst := below_trans' hx1 hx1.size ((Below.refl x1.heap.size x1).alloc (Nat.le_refl _) (.cells #[.string A1, .string B1] 23))
      have g1 := heap_alloc_new x1 (.cells #[.string A1, .string B1] 23)
      have G0' := blk_below hst G0
      replace hB0 := below_trans' hB0 hB0.size hst
      clear hst hx1 G0 k0
      have k0 := cells2 G0'
      go_wp2_with fail
      refine (O2.out _).mono ?_
      rintro e x2 ⟨A2, B2, ok2, rfl, z2, hx2⟩
      have hst := below_trans' hx2 hx2.size ((Below.refl x2.heap.size x2).alloc (Nat.le_refl _) (.cells #[.string A2, .string B2] 23))
      have g2 := heap_alloc_new x2 (.cells #[.string A2, .string B2] 23)
      replace G0' := blk_below hst G0'
      replace g1 := blk_below hst g1
      replace hB0 := below_trans' hB0 hB0.size hst
      clear hst hx2 k0 t3 t4
      have k0 := cells2 G0'
      have k1 := cells2 g1
      have k2 := cells2 g2
      obtain ⟨V, hV⟩ : ∃ V, x2.alloc (.cells #[.string A2, .string B2] 23) = V := ⟨_, rfl⟩
      obtain ⟨Z, hZ⟩ : ∃ Z : Nat → ByteArray, Z = fun j => [N, D, A1, B1, A2, B2].getD j N := ⟨_, rfl⟩
      have gA := heap_alloc_new V (.cells #[.string N, .string D, .string A1, .string B1, .string A2, .string B2] 23)
      have hz0 : Z6 (V.alloc (.cells #[.string N, .string D, .string A1, .string B1, .string A2, .string B2] 23)) V.heap.size Z := by
        refine ⟨_, _, gA, fun j hj => ?_⟩
        rw [hZ]
        match j, hj with
        | 0, _ => rfl
        | 1, _ => rfl
        | 2, _ => rfl
        | 3, _ => rfl
        | 4, _ => rfl
        | 5, _ => rfl
        | j + 6, h => exact absurd h (by omega)
      have hzl : ∀ j, (Z j).size ≤ maxLen := fun j => by
        rw [hZ]
        show ([N, D, A1, B1, A2, B2].getD j N).size ≤ maxLen
        rw [List.getD_eq_getElem?_getD]
        cases hj : [N, D, A1, B1, A2, B2][j]? with
        | none => exact hN
        | some t =>
          have hm := List.mem_of_getElem? hj
          simp only [List.mem_cons, List.not_mem_nil, or_false] at hm
          show t.size ≤ maxLen
          rcases hm with rfl | rfl | rfl | rfl | rfl | rfl <;> first | assumption | exact z1.1 | exact z1.2 | exact z2.1 | exact z2.2
      have HZL := Lib.hid hzl
      rw [← hV] at hz0 gA
      have hsz : (x2.alloc (.cells #[.string A2, .string B2] 23)).heap.size = x2.heap.size + 1 := by simp
      rw [hsz] at hz0
      have hbA : Below (x2.alloc (.cells #[.string A2, .string B2] 23)).heap.size (x2.alloc (.cells #[.string A2, .string B2] 23)) ((x2.alloc (.cells #[.string A2, .string B2] 23)).alloc (.cells #[.string N, .string D, .string A1, .string B1, .string A2, .string B2] 23)) := (Below.refl _ _).alloc (Nat.le_refl _) _
      replace hB0 := below_trans' hB0 hB0.size hbA
      clear hV hZ hzl hbA gA hsz z1 z2 hN hD hNb hDb
      go_wp2_with fail
      generalize (x2.alloc (.cells #[.string A2, .string B2] 23)).alloc (.cells #[.string N, .string D, .string A1, .string B1, .string A2, .string B2] 23) = wL at *
      generalize x2.heap.size + 1 = G at *
      refine (O3.out _).mono ?_
      rintro e x3 ⟨lo, hi, rfl, hin, hx3⟩
      have hst := below_trans' hx3 hx3.size ((Below.refl x3.heap.size x3).alloc (Nat.le_refl _) (.cells #[.int .i64 lo, .int .i64 hi] 69))
      have gM := heap_alloc_new x3 (.cells #[.int .i64 lo, .int .i64 hi] 69)
      replace hz0 := hz0.below hst
      replace hB0 := below_trans' hB0 hB0.size hst
      have hlo := inI_iff.1 hin
      have HZ0 := Lib.hid hz0
      clear hst hx3 hz0 k0 k1 k2 g1 g2 G0' hin b5
      go_wp2_with fail
      generalize x3.alloc (.cells #[.int .i64 lo, .int .i64 hi] 69) = wA at *
      generalize hMb : x3.heap.size = M at *
      clear hMb
      have HM := Lib.hid gM
      clear gM
      go_loopg [19, 20, 21, 22, 23] 3 (fun r ii _ _ _ _ wr => ∃ k : Nat, k ≤ 3 ∧ r = 3 - k ∧ ii = .int .i64 k ∧ Below wA.heap.size wA wr)
      case atStart => exact ⟨0, by omega, rfl, rfl, Below.refl _ _⟩
      case round =>
        obtain ⟨k, hk, hr, rfl, hbw⟩ := hrel
        have HR := Lib.hid hr
        clear hr
        by_cases hk3 : k < 3
        · have hk3I : (k : Int) < 3 := by omega
          obtain ⟨X, hX⟩ : ∃ X, Z (k * 2) = X := ⟨_, rfl⟩
          obtain ⟨Y, hY⟩ : ∃ Y, Z (k * 2 + 1) = Y := ⟨_, rfl⟩
          have hXl := HZL.out (k * 2)
          have hYl := HZL.out (k * 2 + 1)
          rw [hX] at hXl
          rw [hY] at hYl
          obtain ⟨R, hR⟩ : ∃ R, ofI (X.data.toList, Y.data.toList) = R := ⟨_, rfl⟩
          have c1 := fun w => of49 X Y w hXl hYl
          have c2 := fun w => of50 X Y w hXl hYl
          rw [hR] at c1 c2
          have c3 := fun w => contains51 lo hi X Y w (by omega) (by omega) hXl hYl
          have c4 := fun w => contains52 lo hi X Y w (by omega) (by omega) hXl hYl
          obtain ⟨cb, hcb⟩ : ∃ cb, conB lo hi (X.data.toList, Y.data.toList) = cb := ⟨_, rfl⟩
          rw [hcb] at c3 c4
          obtain ⟨p, q, ok, hv, hpq, hcon⟩ : ∃ p q ok, resV R = .tuple #[.agg #[.int .i64 p, .int .i64 q], .bool ok] ∧ (-2305843009213693952 ≤ p ∧ p ≤ q ∧ q ≤ 2305843009213693952 ∧ (q - p = 0 ∨ q - p = 1)) ∧ (ok = true → conB p q (X.data.toList, Y.data.toList) = true) := by
            cases R with
            | none => exact ⟨0, 0, false, rfl, by omega, fun h => by cases h⟩
            | some r => obtain ⟨p, q⟩ := r; have h := ofI_con hR; exact ⟨p, q, true, rfl, h.2, fun _ => h.1⟩
          have c5 := fun w => contains51 p q X Y w (by omega) (by omega) hXl hYl
          rw [hv] at c1 c2
          have C1 := Lib.hid c1
          have C2 := Lib.hid c2
          have C3 := Lib.hid c3
          have C4 := Lib.hid c4
          have C5 := Lib.hid c5
          have HC := Lib.hid hcon
          have hs0 : ∀ w', Below wA.heap.size wA w' → (w'.cell? ⟨G, k * 2, none⟩ = some (.string X) ∧ w'.cell? ⟨G, k * 2 + 1, none⟩ = some (.string Y)) ∧ (w'.cell? ⟨M, 0, none⟩ = some (.int .i64 lo) ∧ w'.cell? ⟨M, 1, none⟩ = some (.int .i64 hi)) := fun w' h => by
            have hz := HZ0.out.below h
            refine ⟨⟨?_, ?_⟩, cells2i (blk_below h HM.out)⟩
            · rw [← hX]; exact hz.cell _ (by omega)
            · rw [← hY]; exact hz.cell _ (by omega)
          have HS0 := Lib.hid hs0
          have s0 := (hs0 _ hbw).1
          clear hs0 hX hY c1 c2 c3 c4 c5 hcon hcb hR hXl hYl
          go_wp2_with fail
          refine (C1.out _).mono ?_
          rintro e y1 ⟨rfl, hb1⟩
          replace hbw := below_trans' hbw hbw.size hb1
          have hst : Below y1.heap.size y1 (y1.alloc (.cells #[.int .i64 p, .int .i64 q] 69)) := (Below.refl _ _).alloc (Nat.le_refl _) _
          have gB1 := heap_alloc_new y1 (.cells #[.int .i64 p, .int .i64 q] 69)
          replace hbw := below_trans' hbw hbw.size hst
          replace s0 := (HS0.out _ hbw).1
          clear hb1 hst
          go_wp2_with fail
          generalize hB1 : y1.heap.size = B1 at *
          clear hB1
          generalize y1.alloc (.cells #[.int .i64 p, .int .i64 q] 69) = Y1 at *
          refine (C2.out _).mono ?_
          rintro e y2 ⟨rfl, hb2⟩
          replace hbw := below_trans' hbw hbw.size hb2
          have hst : Below y2.heap.size y2 (y2.alloc (.cells #[.int .i64 p, .int .i64 q] 69)) := (Below.refl _ _).alloc (Nat.le_refl _) _
          have gB2 := heap_alloc_new y2 (.cells #[.int .i64 p, .int .i64 q] 69)
          replace hbw := below_trans' hbw hbw.size hst
          replace gB1 := blk_below (below_trans' hb2 hb2.size hst) gB1
          clear hb2 hst s0
          go_upto_region 14 with fail
          generalize hB2 : y2.heap.size = B2 at *
          clear hB2
          generalize y2.alloc (.cells #[.int .i64 p, .int .i64 q] 69) = Y2 at *
          have hBd : Below Y2.heap.size Y2 Y2.drew := (Below.refl _ _).drew
          have hs1 : ∀ w', Below Y2.heap.size Y2 w' → ((w'.cell? ⟨G, k * 2, none⟩ = some (.string X) ∧ w'.cell? ⟨G, k * 2 + 1, none⟩ = some (.string Y)) ∧ (w'.cell? ⟨M, 0, none⟩ = some (.int .i64 lo) ∧ w'.cell? ⟨M, 1, none⟩ = some (.int .i64 hi))) ∧ ((w'.cell? ⟨B1, 0, none⟩ = some (.int .i64 p) ∧ w'.cell? ⟨B1, 1, none⟩ = some (.int .i64 q)) ∧ (w'.cell? ⟨B2, 0, none⟩ = some (.int .i64 p) ∧ w'.cell? ⟨B2, 1, none⟩ = some (.int .i64 q))) := fun w' h => ⟨HS0.out _ (below_trans' hbw hbw.size h), cells2i (blk_below h gB1), cells2i (blk_below h gB2)⟩
          have HS := Lib.hid hs1
          have s1 := hs1 _ hBd
          clear hs1
          have hqp : IntKind.i64.wrap (q - p) = q - p := IntWalk.i64_in _ (by omega)
          have hqd : decide (1 < q - p) = false := decide_eq_false (by omega)
          go_cut [127] (fun s127 wx => s127 = .bool false ∧ Below Y2.heap.size Y2 wx)
          case first =>
            cases ok with
            | true =>
              have kc := HC.out rfl
              have hc5 := C5.out
              rw [kc] at hc5
              have K5 := Lib.hid hc5
              clear kc hc5
              go_region_held3 (fun w' => ((w'.cell? ⟨G, k * 2, none⟩ = some (.string X) ∧ w'.cell? ⟨G, k * 2 + 1, none⟩ = some (.string Y)) ∧ (w'.cell? ⟨M, 0, none⟩ = some (.int .i64 lo) ∧ w'.cell? ⟨M, 1, none⟩ = some (.int .i64 hi))) ∧ ((w'.cell? ⟨B1, 0, none⟩ = some (.int .i64 p) ∧ w'.cell? ⟨B1, 1, none⟩ = some (.int .i64 q)) ∧ (w'.cell? ⟨B2, 0, none⟩ = some (.int .i64 p) ∧ w'.cell? ⟨B2, 1, none⟩ = some (.int .i64 q))))
                (first | with_reducible exact s1 | with_reducible exact s3' | with_reducible exact s4' | with_reducible exact s5')
                (first
                  | (go_at_call 51; (with_reducible refine (C3.out Y2.drew).mono ?_); rintro e y3 ⟨rfl, hb3⟩; have hD3 := below_trans' hBd hBd.size hb3; have s3' := HS.out _ hD3)
                  | (go_at_call 52; (with_reducible refine (C4.out _).mono ?_); rintro e y4 ⟨rfl, hb4⟩; have hD4 := below_trans' hD3 hD3.size hb4; have s4' := HS.out _ hD4)
                  | (go_at_call 51; (with_reducible refine (K5.out _).mono ?_); rintro e y5 ⟨rfl, hb5⟩; have hD5 := below_trans' hD4 hD4.size hb5; have s5' := HS.out _ hD5))
              all_goals
                clear s1 s3' s4' s5'
                go_wp2_with fail
                go_meet
                case rel => exact ⟨rfl, hD5⟩
            | false =>
              refine wp_region_held_drew (S := (fun w' => ((w'.cell? ⟨G, k * 2, none⟩ = some (.string X) ∧ w'.cell? ⟨G, k * 2 + 1, none⟩ = some (.string Y)) ∧ (w'.cell? ⟨M, 0, none⟩ = some (.int .i64 lo) ∧ w'.cell? ⟨M, 1, none⟩ = some (.int .i64 hi))) ∧ ((w'.cell? ⟨B1, 0, none⟩ = some (.int .i64 p) ∧ w'.cell? ⟨B1, 1, none⟩ = some (.int .i64 q)) ∧ (w'.cell? ⟨B2, 0, none⟩ = some (.int .i64 p) ∧ w'.cell? ⟨B2, 1, none⟩ = some (.int .i64 q))))) (by kernel_rfl) s1 (fun HH => ?_)
              refine onH (i := 0) (d := (some 85)) (v := ?_) (a' := ?_) (by kernel_rfl) (by kernel_rfl) (by kernel_rfl) (by kernel_rfl) (fun _ _ _ h => h) ?_ HH ?_ ?_
              rotate_left 2
              · (intro o ho w' hSw; simp only [List.getElem?_toArray, List.getElem?_cons_zero, Option.some.injEq] at ho; subst ho; (try dsimp only at hSw); go_simp; try with_reducible rfl)
              · (simp only [Act.put, List.setIfInBounds_toArray, List.set_cons_succ, List.set_cons_zero]; rfl)
              refine onH (i := 1) (d := (some 86)) (v := ?_) (a' := ?_) (by kernel_rfl) (by kernel_rfl) (by kernel_rfl) (by kernel_rfl) (fun _ _ _ h => h) ?_ HH ?_ ?_
              rotate_left 2
              · (intro o ho w' hSw; simp only [List.getElem?_toArray, List.getElem?_cons_succ, List.getElem?_cons_zero, Option.some.injEq] at ho; subst ho; (try dsimp only at hSw); go_simp; try with_reducible rfl)
              · (simp only [Act.put, List.setIfInBounds_toArray, List.set_cons_succ, List.set_cons_zero]; rfl)
              refine onH (i := 2) (d := (some 87)) (v := ?_) (a' := ?_) (by kernel_rfl) (by kernel_rfl) (by kernel_rfl) (by kernel_rfl) (fun _ _ _ h => h) ?_ HH ?_ ?_
              rotate_left 2
              · (intro o ho w' hSw; simp only [List.getElem?_toArray, List.getElem?_cons_succ, List.getElem?_cons_zero, Option.some.injEq] at ho; subst ho; (try dsimp only at hSw); go_simp; try with_reducible rfl)
              · (simp only [Act.put, List.setIfInBounds_toArray, List.set_cons_succ, List.set_cons_zero]; rfl)
              refine onH (i := 3) (d := (some 88)) (v := ?_) (a' := ?_) (by kernel_rfl) (by kernel_rfl) (by kernel_rfl) (by kernel_rfl) (fun _ _ _ h => h) ?_ HH ?_ ?_
              rotate_left 2
              · (intro o ho w' hSw; simp only [List.getElem?_toArray, List.getElem?_cons_succ, List.getElem?_cons_zero, Option.some.injEq] at ho; subst ho; (try dsimp only at hSw); go_simp; try with_reducible rfl)
              · (simp only [Act.put, List.setIfInBounds_toArray, List.set_cons_succ, List.set_cons_zero]; rfl)
              refine onH (i := 4) (d := (some 89)) (v := ?_) (a' := ?_) (by kernel_rfl) (by kernel_rfl) (by kernel_rfl) (by kernel_rfl) (fun _ _ _ h => h) ?_ HH ?_ ?_
              rotate_left 2
              · (intro o ho w' hSw; simp only [List.getElem?_toArray, List.getElem?_cons_succ, List.getElem?_cons_zero, Option.some.injEq] at ho; subst ho; (try dsimp only at hSw); go_simp; try with_reducible rfl)
              · (simp only [Act.put, List.setIfInBounds_toArray, List.set_cons_succ, List.set_cons_zero]; rfl)
              refine onH (i := 5) (d := (some 90)) (v := ?_) (a' := ?_) (by kernel_rfl) (by kernel_rfl) (by kernel_rfl) (by kernel_rfl) (fun _ _ _ h => h) ?_ HH ?_ ?_
              rotate_left 2
              · (intro o ho w' hSw; simp only [List.getElem?_toArray, List.getElem?_cons_succ, List.getElem?_cons_zero, Option.some.injEq] at ho; subst ho; (try dsimp only at hSw); go_simp; try with_reducible rfl)
              · (simp only [Act.put, List.setIfInBounds_toArray, List.set_cons_succ, List.set_cons_zero]; rfl)
              refine onH (i := 6) (d := (some 91)) (v := ?_) (a' := ?_) (by kernel_rfl) (by kernel_rfl) (by kernel_rfl) (by kernel_rfl) (fun _ _ _ h => h) ?_ HH ?_ ?_
              rotate_left 2
              · (intro o ho w' hSw; simp only [List.getElem?_toArray, List.getElem?_cons_succ, List.getElem?_cons_zero, Option.some.injEq] at ho; subst ho; (try dsimp only at hSw); go_simp; try with_reducible rfl)
              · (simp only [Act.put, List.setIfInBounds_toArray, List.set_cons_succ, List.set_cons_zero]; rfl)
              refine onH (i := 7) (d := (some 92)) (v := ?_) (a' := ?_) (by kernel_rfl) (by kernel_rfl) (by kernel_rfl) (by kernel_rfl) (fun _ _ _ h => h) ?_ HH ?_ ?_
              rotate_left 2
              · (intro o ho w' hSw; simp only [List.getElem?_toArray, List.getElem?_cons_succ, List.getElem?_cons_zero, Option.some.injEq] at ho; subst ho; (try dsimp only at hSw); go_simp; try with_reducible rfl)
              · (simp only [Act.put, List.setIfInBounds_toArray, List.set_cons_succ, List.set_cons_zero]; rfl)
              refine onH (i := 8) (d := (some 93)) (v := ?_) (a' := ?_) (by kernel_rfl) (by kernel_rfl) (by kernel_rfl) (by kernel_rfl) (fun _ _ _ h => h) ?_ HH ?_ ?_
              rotate_left 2
              · (intro o ho w' hSw; simp only [List.getElem?_toArray, List.getElem?_cons_succ, List.getElem?_cons_zero, Option.some.injEq] at ho; subst ho; (try dsimp only at hSw); go_simp; try with_reducible rfl)
              · (simp only [Act.put, List.setIfInBounds_toArray, List.set_cons_succ, List.set_cons_zero]; rfl)
              refine onH (i := 9) (d := (some 94)) (v := ?_) (a' := ?_) (by kernel_rfl) (by kernel_rfl) (by kernel_rfl) (by kernel_rfl) (fun _ _ _ h => h) ?_ HH ?_ ?_
              rotate_left 2
              · (intro o ho w' hSw; simp only [List.getElem?_toArray, List.getElem?_cons_succ, List.getElem?_cons_zero, Option.some.injEq] at ho; subst ho; (try dsimp only at hSw); go_simp; try with_reducible rfl)
              · (simp only [Act.put, List.setIfInBounds_toArray, List.set_cons_succ, List.set_cons_zero]; rfl)
              refine onH (i := 10) (d := (some 95)) (v := ?_) (a' := ?_) (by kernel_rfl) (by kernel_rfl) (by kernel_rfl) (by kernel_rfl) (fun _ _ _ h => h) ?_ HH ?_ ?_
              rotate_left 2
              · (intro o ho w' hSw; simp only [List.getElem?_toArray, List.getElem?_cons_succ, List.getElem?_cons_zero, Option.some.injEq] at ho; subst ho; (try dsimp only at hSw); go_simp; try with_reducible rfl)
              · (simp only [Act.put, List.setIfInBounds_toArray, List.set_cons_succ, List.set_cons_zero]; rfl)
              refine onH (i := 11) (d := (some 96)) (v := ?_) (a' := ?_) (by kernel_rfl) (by kernel_rfl) (by kernel_rfl) (by kernel_rfl) (fun _ _ _ h => h) ?_ HH ?_ ?_
              rotate_left 2
              · (intro o ho w' hSw; simp only [List.getElem?_toArray, List.getElem?_cons_succ, List.getElem?_cons_zero, Option.some.injEq] at ho; subst ho; (try dsimp only at hSw); go_simp; try with_reducible rfl)
              · (simp only [Act.put, List.setIfInBounds_toArray, List.set_cons_succ, List.set_cons_zero]; rfl)
              refine onH (i := 12) (d := (some 97)) (v := ?_) (a' := ?_) (by kernel_rfl) (by kernel_rfl) (by kernel_rfl) (by kernel_rfl) (fun _ _ _ h => h) ?_ HH ?_ ?_
              rotate_left 2
              · (intro o ho w' hSw; simp only [List.getElem?_toArray, List.getElem?_cons_succ, List.getElem?_cons_zero, Option.some.injEq] at ho; subst ho; (try dsimp only at hSw); go_simp; try with_reducible rfl)
              · (simp only [Act.put, List.setIfInBounds_toArray, List.set_cons_succ, List.set_cons_zero]; rfl)
              refine onH (i := 13) (d := (some 98)) (v := ?_) (a' := ?_) (by kernel_rfl) (by kernel_rfl) (by kernel_rfl) (by kernel_rfl) (fun _ _ _ h => h) ?_ HH ?_ ?_
              rotate_left 2
              · (intro o ho w' hSw; simp only [List.getElem?_toArray, List.getElem?_cons_succ, List.getElem?_cons_zero, Option.some.injEq] at ho; subst ho; (try dsimp only at hSw); go_simp; try with_reducible rfl)
              · (simp only [Act.put, List.setIfInBounds_toArray, List.set_cons_succ, List.set_cons_zero]; rfl)
              refine onH (i := 15) (d := (some 100)) (v := ?_) (a' := ?_) (by kernel_rfl) (by kernel_rfl) (by kernel_rfl) (by kernel_rfl) (fun _ _ _ h => h) ?_ HH ?_ ?_
              rotate_left 2
              · (intro o ho w' hSw; simp only [List.getElem?_toArray, List.getElem?_cons_succ, List.getElem?_cons_zero, Option.some.injEq] at ho; subst ho; (try dsimp only at hSw); go_simp; try with_reducible rfl)
              · (simp only [Act.put, List.setIfInBounds_toArray, List.set_cons_succ, List.set_cons_zero]; rfl)
              refine onH (i := 16) (d := (some 101)) (v := ?_) (a' := ?_) (by kernel_rfl) (by kernel_rfl) (by kernel_rfl) (by kernel_rfl) (fun _ _ _ h => h) ?_ HH ?_ ?_
              rotate_left 2
              · (intro o ho w' hSw; simp only [List.getElem?_toArray, List.getElem?_cons_succ, List.getElem?_cons_zero, Option.some.injEq] at ho; subst ho; (try dsimp only at hSw); go_simp; try with_reducible rfl)
              · (simp only [Act.put, List.setIfInBounds_toArray, List.set_cons_succ, List.set_cons_zero]; rfl)
              refine onH (i := 17) (d := (some 102)) (v := ?_) (a' := ?_) (by kernel_rfl) (by kernel_rfl) (by kernel_rfl) (by kernel_rfl) (fun _ _ _ h => h) ?_ HH ?_ ?_
              rotate_left 2
              · (intro o ho w' hSw; simp only [List.getElem?_toArray, List.getElem?_cons_succ, List.getElem?_cons_zero, Option.some.injEq] at ho; subst ho; (try dsimp only at hSw); go_simp; try with_reducible rfl)
              · (simp only [Act.put, List.setIfInBounds_toArray, List.set_cons_succ, List.set_cons_zero]; rfl)
              refine onH (i := 18) (d := (some 103)) (v := ?_) (a' := ?_) (by kernel_rfl) (by kernel_rfl) (by kernel_rfl) (by kernel_rfl) (fun _ _ _ h => h) ?_ HH ?_ ?_
              rotate_left 2
              · (intro o ho w' hSw; simp only [List.getElem?_toArray, List.getElem?_cons_succ, List.getElem?_cons_zero, Option.some.injEq] at ho; subst ho; (try dsimp only at hSw); go_simp; try with_reducible rfl)
              · (simp only [Act.put, List.setIfInBounds_toArray, List.set_cons_succ, List.set_cons_zero]; rfl)
              refine onH (i := 19) (d := (some 104)) (v := ?_) (a' := ?_) (by kernel_rfl) (by kernel_rfl) (by kernel_rfl) (by kernel_rfl) (fun _ _ _ h => h) ?_ HH ?_ ?_
              rotate_left 2
              · (intro o ho w' hSw; simp only [List.getElem?_toArray, List.getElem?_cons_succ, List.getElem?_cons_zero, Option.some.injEq] at ho; subst ho; (try dsimp only at hSw); go_simp; try with_reducible rfl)
              · (simp only [Act.put, List.setIfInBounds_toArray, List.set_cons_succ, List.set_cons_zero]; rfl)
              refine oneH (i := 14) (by kernel_rfl) (fun o ho K hK => ?_)
              simp only [List.getElem?_toArray, List.getElem?_cons_succ, List.getElem?_cons_zero, Option.some.injEq] at ho; subst ho
              go_simp
              go_at_call 51; refine (C3.out _).mono ?_; rintro e y3 ⟨rfl, hb3⟩; have hD3 := below_trans' hBd hBd.size hb3
              refine hK.out _ _ ?_ (fun HH => ?_)
              · exact HS.out _ hD3
              clear hK K
              (try simp only [Act.put, List.setIfInBounds_toArray, List.set_cons_zero, List.set_cons_succ])
              refine oneH (i := 20) (by kernel_rfl) (fun o ho K hK => ?_)
              simp only [List.getElem?_toArray, List.getElem?_cons_succ, List.getElem?_cons_zero, Option.some.injEq] at ho; subst ho
              go_simp
              go_at_call 52; refine (C4.out _).mono ?_; rintro e y4 ⟨rfl, hb4⟩; have hD4 := below_trans' hD3 hD3.size hb4
              refine hK.out _ _ ?_ (fun HH => ?_)
              · exact HS.out _ hD4
              clear hK K
              (try simp only [Act.put, List.setIfInBounds_toArray, List.set_cons_zero, List.set_cons_succ])
              refine onH (i := 21) (d := (some 106)) (v := ?_) (a' := ?_) (by kernel_rfl) (by kernel_rfl) (by kernel_rfl) (by kernel_rfl) (fun _ _ _ h => h) ?_ HH ?_ ?_
              rotate_left 2
              · (intro o ho w' hSw; simp only [List.getElem?_toArray, List.getElem?_cons_succ, List.getElem?_cons_zero, Option.some.injEq] at ho; subst ho; (try dsimp only at hSw); go_simp; try with_reducible rfl)
              · (simp only [Act.put, List.setIfInBounds_toArray, List.set_cons_succ, List.set_cons_zero]; rfl)
              refine onH (i := 22) (d := (some 107)) (v := ?_) (a' := ?_) (by kernel_rfl) (by kernel_rfl) (by kernel_rfl) (by kernel_rfl) (fun _ _ _ h => h) ?_ HH ?_ ?_
              rotate_left 2
              · (intro o ho w' hSw; simp only [List.getElem?_toArray, List.getElem?_cons_succ, List.getElem?_cons_zero, Option.some.injEq] at ho; subst ho; (try dsimp only at hSw); go_simp; try with_reducible rfl)
              · (simp only [Act.put, List.setIfInBounds_toArray, List.set_cons_succ, List.set_cons_zero]; rfl)
              refine onH (i := 23) (d := (some 108)) (v := ?_) (a' := ?_) (by kernel_rfl) (by kernel_rfl) (by kernel_rfl) (by kernel_rfl) (fun _ _ _ h => h) ?_ HH ?_ ?_
              rotate_left 2
              · (intro o ho w' hSw; simp only [List.getElem?_toArray, List.getElem?_cons_succ, List.getElem?_cons_zero, Option.some.injEq] at ho; subst ho; (try dsimp only at hSw); go_simp; try with_reducible rfl)
              · (simp only [Act.put, List.setIfInBounds_toArray, List.set_cons_succ, List.set_cons_zero]; rfl)
              refine onH (i := 24) (d := (some 109)) (v := ?_) (a' := ?_) (by kernel_rfl) (by kernel_rfl) (by kernel_rfl) (by kernel_rfl) (fun _ _ _ h => h) ?_ HH ?_ ?_
              rotate_left 2
              · (intro o ho w' hSw; simp only [List.getElem?_toArray, List.getElem?_cons_succ, List.getElem?_cons_zero, Option.some.injEq] at ho; subst ho; (try dsimp only at hSw); go_simp; try with_reducible rfl)
              · (simp only [Act.put, List.setIfInBounds_toArray, List.set_cons_succ, List.set_cons_zero]; rfl)
              refine onH (i := 25) (d := (some 110)) (v := ?_) (a' := ?_) (by kernel_rfl) (by kernel_rfl) (by kernel_rfl) (by kernel_rfl) (fun _ _ _ h => h) ?_ HH ?_ ?_
              rotate_left 2
              · (intro o ho w' hSw; simp only [List.getElem?_toArray, List.getElem?_cons_succ, List.getElem?_cons_zero, Option.some.injEq] at ho; subst ho; (try dsimp only at hSw); go_simp; try with_reducible rfl)
              · (simp only [Act.put, List.setIfInBounds_toArray, List.set_cons_succ, List.set_cons_zero]; rfl)
              refine offH (i := 26) (d := (some 111)) (a' := ?_) (by kernel_rfl) (by kernel_rfl) (by kernel_rfl) (by kernel_rfl) (fun _ _ _ h => h) HH ?_ ?_
              rotate_left 1
              · (simp only [Act.put, List.setIfInBounds_toArray, List.set_cons_succ, List.set_cons_zero]; rfl)
              refine offH (i := 27) (d := (some 112)) (a' := ?_) (by kernel_rfl) (by kernel_rfl) (by kernel_rfl) (by kernel_rfl) (fun _ _ _ h => h) HH ?_ ?_
              rotate_left 1
              · (simp only [Act.put, List.setIfInBounds_toArray, List.set_cons_succ, List.set_cons_zero]; rfl)
              refine offH (i := 28) (d := (some 113)) (a' := ?_) (by kernel_rfl) (by kernel_rfl) (by kernel_rfl) (by kernel_rfl) (fun _ _ _ h => h) HH ?_ ?_
              rotate_left 1
              · (simp only [Act.put, List.setIfInBounds_toArray, List.set_cons_succ, List.set_cons_zero]; rfl)
              refine offH (i := 29) (d := (some 114)) (a' := ?_) (by kernel_rfl) (by kernel_rfl) (by kernel_rfl) (by kernel_rfl) (fun _ _ _ h => h) HH ?_ ?_
              rotate_left 1
              · (simp only [Act.put, List.setIfInBounds_toArray, List.set_cons_succ, List.set_cons_zero]; rfl)
              refine offH (i := 30) (d := (some 115)) (a' := ?_) (by kernel_rfl) (by kernel_rfl) (by kernel_rfl) (by kernel_rfl) (fun _ _ _ h => h) HH ?_ ?_
              rotate_left 1
              · (simp only [Act.put, List.setIfInBounds_toArray, List.set_cons_succ, List.set_cons_zero]; rfl)
              refine offH (i := 31) (d := (some 116)) (a' := ?_) (by kernel_rfl) (by kernel_rfl) (by kernel_rfl) (by kernel_rfl) (fun _ _ _ h => h) HH ?_ ?_
              rotate_left 1
              · (simp only [Act.put, List.setIfInBounds_toArray, List.set_cons_succ, List.set_cons_zero]; rfl)
              refine offH (i := 32) (d := (some 117)) (a' := ?_) (by kernel_rfl) (by kernel_rfl) (by kernel_rfl) (by kernel_rfl) (fun _ _ _ h => h) HH ?_ ?_
              rotate_left 1
              · (simp only [Act.put, List.setIfInBounds_toArray, List.set_cons_succ, List.set_cons_zero]; rfl)
              refine offH (i := 33) (d := (some 118)) (a' := ?_) (by kernel_rfl) (by kernel_rfl) (by kernel_rfl) (by kernel_rfl) (fun _ _ _ h => h) HH ?_ ?_
              rotate_left 1
              · (simp only [Act.put, List.setIfInBounds_toArray, List.set_cons_succ, List.set_cons_zero]; rfl)
              refine offH (i := 34) (d := (some 119)) (a' := ?_) (by kernel_rfl) (by kernel_rfl) (by kernel_rfl) (by kernel_rfl) (fun _ _ _ h => h) HH ?_ ?_
              rotate_left 1
              · (simp only [Act.put, List.setIfInBounds_toArray, List.set_cons_succ, List.set_cons_zero]; rfl)
              refine offH (i := 35) (d := (some 120)) (a' := ?_) (by kernel_rfl) (by kernel_rfl) (by kernel_rfl) (by kernel_rfl) (fun _ _ _ h => h) HH ?_ ?_
              rotate_left 1
              · (simp only [Act.put, List.setIfInBounds_toArray, List.set_cons_succ, List.set_cons_zero]; rfl)
              refine offH (i := 36) (d := (some 121)) (a' := ?_) (by kernel_rfl) (by kernel_rfl) (by kernel_rfl) (by kernel_rfl) (fun _ _ _ h => h) HH ?_ ?_
              rotate_left 1
              · (simp only [Act.put, List.setIfInBounds_toArray, List.set_cons_succ, List.set_cons_zero]; rfl)
              refine offH (i := 37) (d := (some 122)) (a' := ?_) (by kernel_rfl) (by kernel_rfl) (by kernel_rfl) (by kernel_rfl) (fun _ _ _ h => h) HH ?_ ?_
              rotate_left 1
              · (simp only [Act.put, List.setIfInBounds_toArray, List.set_cons_succ, List.set_cons_zero]; rfl)
              refine offH (i := 38) (d := (some 123)) (a' := ?_) (by kernel_rfl) (by kernel_rfl) (by kernel_rfl) (by kernel_rfl) (fun _ _ _ h => h) HH ?_ ?_
              rotate_left 1
              · (simp only [Act.put, List.setIfInBounds_toArray, List.set_cons_succ, List.set_cons_zero]; rfl)
              refine offH (i := 39) (d := (some 124)) (a' := ?_) (by kernel_rfl) (by kernel_rfl) (by kernel_rfl) (by kernel_rfl) (fun _ _ _ h => h) HH ?_ ?_
              rotate_left 1
              · (simp only [Act.put, List.setIfInBounds_toArray, List.set_cons_succ, List.set_cons_zero]; rfl)
              refine offH (i := 40) (d := (some 125)) (a' := ?_) (by kernel_rfl) (by kernel_rfl) (by kernel_rfl) (by kernel_rfl) (fun _ _ _ h => h) HH ?_ ?_
              rotate_left 1
              · (simp only [Act.put, List.setIfInBounds_toArray, List.set_cons_succ, List.set_cons_zero]; rfl)
              refine onH (i := 41) (d := (some 126)) (v := ?_) (a' := ?_) (by kernel_rfl) (by kernel_rfl) (by kernel_rfl) (by kernel_rfl) (fun _ _ _ h => h) ?_ HH ?_ ?_
              rotate_left 2
              · (intro o ho w' hSw; simp only [List.getElem?_toArray, List.getElem?_cons_succ, List.getElem?_cons_zero, Option.some.injEq] at ho; subst ho; (try dsimp only at hSw); go_simp; try with_reducible rfl)
              · (simp only [Act.put, List.setIfInBounds_toArray, List.set_cons_succ, List.set_cons_zero]; rfl)
              refine onH (i := 42) (d := (some 127)) (v := ?_) (a' := ?_) (by kernel_rfl) (by kernel_rfl) (by kernel_rfl) (by kernel_rfl) (fun _ _ _ h => h) ?_ HH ?_ ?_
              rotate_left 2
              · (intro o ho w' hSw; simp only [List.getElem?_toArray, List.getElem?_cons_succ, List.getElem?_cons_zero, Option.some.injEq] at ho; subst ho; (try dsimp only at hSw); go_simp; try with_reducible rfl)
              · (simp only [Act.put, List.setIfInBounds_toArray, List.set_cons_succ, List.set_cons_zero]; rfl)
              refine wpAnyH_done (by kernel_rfl) ?_ _
              clear s1
              go_wp2_with fail
              go_meet
              case rel => exact ⟨rfl, hD4⟩
          case rest =>
            obtain ⟨rfl, hb⟩ := hcut
            replace hbw := below_trans' hbw hbw.size hb
            clear s1 hBd hb gB1 gB2 hqp hqd hpq
            go_wp2_with fail
            go_roundg (3 - (k + 1))
            case measure => have := HR.out; omega
            case rel => exact ⟨k + 1, by omega, rfl, by go_num, hbw⟩
        · go_wp2_with fail
          go_ret
          exact ⟨rfl, below_trans' hB0 hB0.size hbw⟩
end Go.Proofs.YtpligjkbnlfhgaaDoor
