/- Whether an interval contains a fraction, the reference's. -/
import Derived.Test.YtpligjkbnlfhgaaDoorIvP
import Derived.Test.YtpligjkbnlfhgaaDoorHd
namespace Go.Proofs.YtpligjkbnlfhgaaDoor
open Go.RowKit

theorem make69q (a : Int) (w : World) (h : -9223372036854775808 ≤ a ∧ a ≤ 9223372036854775807) :
    Calls Tryd.prog 69 #[.int .i64 a, .int .i64 4294967296] w fun e w' => ∃ f, e = .returned f ∧ FrR w' f (qI a) ∧ Below w.heap.size w w' := by
  have := make69 a 4294967296 w h.1 h.2 (by decide) (by decide) (by decide)
  have e : ratP (decide (a < 0) != decide ((4294967296 : Int) < 0)) a.natAbs (4294967296 : Int).natAbs = qI a := by
    unfold qI
    rw [show (decide ((4294967296 : Int) < 0)) = false by decide, show (4294967296 : Int).natAbs = 4294967296 by decide]
    cases decide (a < 0) <;> rfl
  rwa [e] at this
theorem qI_RS {a : Int} (h : -9223372036854775808 ≤ a ∧ a ≤ 9223372036854775807) : RS KD (qI a) := by
  have h1 : (9223372036854775808 : Nat) < 2 ^ KD := Nat.lt_of_lt_of_le (show 9223372036854775808 < 2 ^ 64 by decide) (Nat.pow_le_pow_right (by omega) (by decide))
  exact RS.bd (qI_bd h) h1 (Nat.lt_trans (by decide) h1)

set_option maxRecDepth 100000 in
set_option maxHeartbeats 8000000 in
theorem contains52 (a b : Int) (N D : ByteArray) (w : World) (ha : -9223372036854775808 ≤ a ∧ a ≤ 9223372036854775807) (hb : -9223372036854775808 ≤ b ∧ b ≤ 9223372036854775807) (hN : N.size ≤ maxLen) (hD : D.size ≤ maxLen) :
    Calls Tryd.prog 52 #[.agg #[.int .i64 a, .int .i64 b], .agg #[.string N, .string D]] w fun e w' => e = .returned (.bool (conB a b (N.data.toList, D.data.toList))) ∧ Below w.heap.size w w' := by
  obtain ⟨R, hR⟩ : ∃ R, conB a b (N.data.toList, D.data.toList) = R := ⟨_, rfl⟩
  rw [hR]
  have HR := Lib.hid hR
  have hv1 := fun w => valid16 a b w
  obtain ⟨i, hi⟩ : ∃ i, inI a b = i := ⟨_, rfl⟩
  rw [hi] at hv1
  have HV1 := Lib.hid hv1
  have HI := Lib.hid hi
  obtain ⟨hbW, g0, g1⟩ := allocs2' w #[.int .i64 a, .int .i64 b] #[.string N, .string D] 69 23
  have k1 := cells2 g1
  clear hR hv1 hi
  go_enter Tryd.func52, Tryd.ntmps52
  go_wp2_with fail
  generalize (w.alloc (.cells #[.int .i64 a, .int .i64 b] 69)).alloc (.cells #[.string N, .string D] 23) = W at *
  refine (read66 N D W hN hD).mono ?_
  rintro e w1 ⟨bb, A1, n1, c1, A2, n2, c2, rfl, hx, hb1⟩
  obtain ⟨o, ho⟩ : ∃ o, (rdR (N.data.toList, D.data.toList)).isSome = o := ⟨_, rfl⟩
  rw [ho]
  have HO := Lib.hid ho
  have hba : Below w1.heap.size w1 (w1.alloc (.cells #[.bool bb, .slice A1 n1 c1, .slice A2 n2 c2] 94)) := (Below.refl _ _).alloc (Nat.le_refl _) _
  have g5 := heap_alloc_new w1 (.cells #[.bool bb, .slice A1 n1 c1, .slice A2 n2 c2] 94)
  have hB1 := below_trans' hb1 hb1.size hba
  have HX := Lib.hid hx
  have hB0 := below_trans' hbW hbW.size hB1
  have G0 := blk_below hB1 g0
  clear k1 ho hx
  generalize hW8 : w1.alloc (.cells #[.bool bb, .slice A1 n1 c1, .slice A2 n2 c2] 94) = w8 at *
  have HW8 := Lib.hid hW8
  clear hW8
  have hS : ∀ w', Below w8.heap.size w8 w' → (w'.cell? ⟨w.heap.size, 0, none⟩ = some (.int .i64 a) ∧ w'.cell? ⟨w.heap.size, 1, none⟩ = some (.int .i64 b)) ∧ (w'.cell? ⟨w1.heap.size, 0, none⟩ = some (.bool bb) ∧ w'.cell? ⟨w1.heap.size, 1, none⟩ = some (.slice A1 n1 c1) ∧ w'.cell? ⟨w1.heap.size, 2, none⟩ = some (.slice A2 n2 c2)) := fun w' h => ⟨cells2i (blk_below h G0), cells3 (blk_below h g5)⟩
  have HS := Lib.hid hS
  have hbd : Below w8.heap.size w8 w8.drew := (Below.refl _ _).drew
  have s0 := hS _ hbd
  clear hS
  cases o with
  | false =>
    have hR0 : R = false := by
      rw [← HR.out]; unfold conB
      have := HO.out
      cases e : rdR (N.data.toList, D.data.toList) with
      | none => rfl
      | some x => rw [e] at this; cases this
    subst hR0
    go_upto_region 2 with fail
    rw [HW8.out]
    go_quiet (fail)
    all_goals
      clear s0
      go_wp2_with fail
      go_ret
      exact ⟨rfl, below_drewN hB0 _⟩
  | true =>
    obtain ⟨x, hx⟩ : ∃ x, rdR (N.data.toList, D.data.toList) = some x := by
      have := HO.out
      cases e : rdR (N.data.toList, D.data.toList) with
      | none => rw [e] at this; cases this
      | some x => exact ⟨x, rfl⟩
    have hR1 : R = (i && (decide (sgnR (qI a - x) ≤ 0) && decide (sgnR (x - qI b) ≤ 0))) := by
      rw [← HR.out]; unfold conB; rw [hx]
      show (inI a b && _) = _
      rw [HI.out]
    have fx0 : FrR w8 (.agg #[.bool bb, .slice A1 n1 c1, .slice A2 n2 c2]) x := (HX.out x hx).below hba
    have fxd := fx0.below hbd
    have rx := rd_RS hx
    have C1 := fun f w h g => order84 KD f (.agg #[.bool bb, .slice A1 n1 c1, .slice A2 n2 c2]) (qI a) x w (by decide) (qI_RS ha) rx h g
    have C2 := fun g w h1 h2 => order84 KD (.agg #[.bool bb, .slice A1 n1 c1, .slice A2 n2 c2]) g x (qI b) w (by decide) rx (qI_RS hb) h1 h2
    obtain ⟨r1, hr1⟩ : ∃ r1, sgnR (qI a - x) = r1 := ⟨_, rfl⟩
    obtain ⟨r2, hr2⟩ : ∃ r2, sgnR (x - qI b) = r2 := ⟨_, rfl⟩
    rw [hr1] at C1 hR1
    rw [hr2] at C2 hR1
    have HC1 := Lib.hid C1
    have HC2 := Lib.hid C2
    have HR1 := Lib.hid hR1
    clear C1 C2 hR1 hr1 hr2 hx fx0
    go_upto_region 2 with fail
    rw [HW8.out]
    cases i with
    | false =>
      have hR0 : R = false := HR1.out
      subst hR0
      refine wp_region_held_drew (S := (fun w' => (w'.cell? ⟨w.heap.size, 0, none⟩ = some (.int .i64 a) ∧ w'.cell? ⟨w.heap.size, 1, none⟩ = some (.int .i64 b)) ∧ (w'.cell? ⟨w1.heap.size, 0, none⟩ = some (.bool bb) ∧ w'.cell? ⟨w1.heap.size, 1, none⟩ = some (.slice A1 n1 c1) ∧ w'.cell? ⟨w1.heap.size, 2, none⟩ = some (.slice A2 n2 c2)))) (by kernel_rfl) s0 (fun HH => ?_)
      refine onH (i := 0) (d := (some 12)) (v := ?_) (a' := ?_) (by kernel_rfl) (by kernel_rfl) (by kernel_rfl) (by kernel_rfl) (fun _ _ _ h => h) ?_ HH ?_ ?_
      rotate_left 2
      · (intro o ho w' hSw; simp only [List.getElem?_toArray, List.getElem?_cons_zero, Option.some.injEq] at ho; subst ho; (try dsimp only at hSw); go_simp; try with_reducible rfl)
      · (simp only [Act.put, List.setIfInBounds_toArray, List.set_cons_succ, List.set_cons_zero]; rfl)
      refine onH (i := 1) (d := (some 13)) (v := ?_) (a' := ?_) (by kernel_rfl) (by kernel_rfl) (by kernel_rfl) (by kernel_rfl) (fun _ _ _ h => h) ?_ HH ?_ ?_
      rotate_left 2
      · (intro o ho w' hSw; simp only [List.getElem?_toArray, List.getElem?_cons_succ, List.getElem?_cons_zero, Option.some.injEq] at ho; subst ho; (try dsimp only at hSw); go_simp; try with_reducible rfl)
      · (simp only [Act.put, List.setIfInBounds_toArray, List.set_cons_succ, List.set_cons_zero]; rfl)
      refine onH (i := 2) (d := (some 14)) (v := ?_) (a' := ?_) (by kernel_rfl) (by kernel_rfl) (by kernel_rfl) (by kernel_rfl) (fun _ _ _ h => h) ?_ HH ?_ ?_
      rotate_left 2
      · (intro o ho w' hSw; simp only [List.getElem?_toArray, List.getElem?_cons_succ, List.getElem?_cons_zero, Option.some.injEq] at ho; subst ho; (try dsimp only at hSw); go_simp; try with_reducible rfl)
      · (simp only [Act.put, List.setIfInBounds_toArray, List.set_cons_succ, List.set_cons_zero]; rfl)
      refine oneH (i := 3) (by kernel_rfl) (fun o ho K hK => ?_)
      simp only [List.getElem?_toArray, List.getElem?_cons_succ, List.getElem?_cons_zero, Option.some.injEq] at ho; subst ho
      go_simp
      go_at_call 101; refine (HV1.out _).mono ?_; rintro e y1 ⟨rfl, hb1'⟩; have hD1 := below_trans' hbd hbd.size hb1'; have fx1 := fxd.below hb1'
      refine hK.out _ _ ?_ (fun HH => ?_)
      · exact HS.out _ hD1
      clear hK K
      (try simp only [Act.put, List.setIfInBounds_toArray, List.set_cons_zero, List.set_cons_succ])
      refine onH (i := 4) (d := (some 16)) (v := ?_) (a' := ?_) (by kernel_rfl) (by kernel_rfl) (by kernel_rfl) (by kernel_rfl) (fun _ _ _ h => h) ?_ HH ?_ ?_
      rotate_left 2
      · (intro o ho w' hSw; simp only [List.getElem?_toArray, List.getElem?_cons_succ, List.getElem?_cons_zero, Option.some.injEq] at ho; subst ho; (try dsimp only at hSw); go_simp; try with_reducible rfl)
      · (simp only [Act.put, List.setIfInBounds_toArray, List.set_cons_succ, List.set_cons_zero]; rfl)
      refine onH (i := 5) (d := (some 17)) (v := ?_) (a' := ?_) (by kernel_rfl) (by kernel_rfl) (by kernel_rfl) (by kernel_rfl) (fun _ _ _ h => h) ?_ HH ?_ ?_
      rotate_left 2
      · (intro o ho w' hSw; simp only [List.getElem?_toArray, List.getElem?_cons_succ, List.getElem?_cons_zero, Option.some.injEq] at ho; subst ho; (try dsimp only at hSw); go_simp; try with_reducible rfl)
      · (simp only [Act.put, List.setIfInBounds_toArray, List.set_cons_succ, List.set_cons_zero]; rfl)
      refine offH (i := 6) (d := (some 18)) (a' := ?_) (by kernel_rfl) (by kernel_rfl) (by kernel_rfl) (by kernel_rfl) (fun _ _ _ h => h) HH ?_ ?_
      rotate_left 1
      · (simp only [Act.put, List.setIfInBounds_toArray, List.set_cons_succ, List.set_cons_zero]; rfl)
      refine offH (i := 7) (d := (some 19)) (a' := ?_) (by kernel_rfl) (by kernel_rfl) (by kernel_rfl) (by kernel_rfl) (fun _ _ _ h => h) HH ?_ ?_
      rotate_left 1
      · (simp only [Act.put, List.setIfInBounds_toArray, List.set_cons_succ, List.set_cons_zero]; rfl)
      refine offH (i := 8) (d := (some 20)) (a' := ?_) (by kernel_rfl) (by kernel_rfl) (by kernel_rfl) (by kernel_rfl) (fun _ _ _ h => h) HH ?_ ?_
      rotate_left 1
      · (simp only [Act.put, List.setIfInBounds_toArray, List.set_cons_succ, List.set_cons_zero]; rfl)
      refine offH (i := 9) (d := (some 21)) (a' := ?_) (by kernel_rfl) (by kernel_rfl) (by kernel_rfl) (by kernel_rfl) (fun _ _ _ h => h) HH ?_ ?_
      rotate_left 1
      · (simp only [Act.put, List.setIfInBounds_toArray, List.set_cons_succ, List.set_cons_zero]; rfl)
      refine offH (i := 10) (d := (some 22)) (a' := ?_) (by kernel_rfl) (by kernel_rfl) (by kernel_rfl) (by kernel_rfl) (fun _ _ _ h => h) HH ?_ ?_
      rotate_left 1
      · (simp only [Act.put, List.setIfInBounds_toArray, List.set_cons_succ, List.set_cons_zero]; rfl)
      refine offH (i := 11) (d := (some 23)) (a' := ?_) (by kernel_rfl) (by kernel_rfl) (by kernel_rfl) (by kernel_rfl) (fun _ _ _ h => h) HH ?_ ?_
      rotate_left 1
      · (simp only [Act.put, List.setIfInBounds_toArray, List.set_cons_succ, List.set_cons_zero]; rfl)
      refine onH (i := 12) (d := (some 24)) (v := ?_) (a' := ?_) (by kernel_rfl) (by kernel_rfl) (by kernel_rfl) (by kernel_rfl) (fun _ _ _ h => h) ?_ HH ?_ ?_
      rotate_left 2
      · (intro o ho w' hSw; simp only [List.getElem?_toArray, List.getElem?_cons_succ, List.getElem?_cons_zero, Option.some.injEq] at ho; subst ho; (try dsimp only at hSw); go_simp; try with_reducible rfl)
      · (simp only [Act.put, List.setIfInBounds_toArray, List.set_cons_succ, List.set_cons_zero]; rfl)
      refine onH (i := 13) (d := (some 25)) (v := ?_) (a' := ?_) (by kernel_rfl) (by kernel_rfl) (by kernel_rfl) (by kernel_rfl) (fun _ _ _ h => h) ?_ HH ?_ ?_
      rotate_left 2
      · (intro o ho w' hSw; simp only [List.getElem?_toArray, List.getElem?_cons_succ, List.getElem?_cons_zero, Option.some.injEq] at ho; subst ho; (try dsimp only at hSw); go_simp; try with_reducible rfl)
      · (simp only [Act.put, List.setIfInBounds_toArray, List.set_cons_succ, List.set_cons_zero]; rfl)
      refine offH (i := 14) (d := (some 26)) (a' := ?_) (by kernel_rfl) (by kernel_rfl) (by kernel_rfl) (by kernel_rfl) (fun _ _ _ h => h) HH ?_ ?_
      rotate_left 1
      · (simp only [Act.put, List.setIfInBounds_toArray, List.set_cons_succ, List.set_cons_zero]; rfl)
      refine offH (i := 15) (d := (some 27)) (a' := ?_) (by kernel_rfl) (by kernel_rfl) (by kernel_rfl) (by kernel_rfl) (fun _ _ _ h => h) HH ?_ ?_
      rotate_left 1
      · (simp only [Act.put, List.setIfInBounds_toArray, List.set_cons_succ, List.set_cons_zero]; rfl)
      refine offH (i := 16) (d := (some 28)) (a' := ?_) (by kernel_rfl) (by kernel_rfl) (by kernel_rfl) (by kernel_rfl) (fun _ _ _ h => h) HH ?_ ?_
      rotate_left 1
      · (simp only [Act.put, List.setIfInBounds_toArray, List.set_cons_succ, List.set_cons_zero]; rfl)
      refine offH (i := 17) (d := (some 29)) (a' := ?_) (by kernel_rfl) (by kernel_rfl) (by kernel_rfl) (by kernel_rfl) (fun _ _ _ h => h) HH ?_ ?_
      rotate_left 1
      · (simp only [Act.put, List.setIfInBounds_toArray, List.set_cons_succ, List.set_cons_zero]; rfl)
      refine offH (i := 18) (d := (some 30)) (a' := ?_) (by kernel_rfl) (by kernel_rfl) (by kernel_rfl) (by kernel_rfl) (fun _ _ _ h => h) HH ?_ ?_
      rotate_left 1
      · (simp only [Act.put, List.setIfInBounds_toArray, List.set_cons_succ, List.set_cons_zero]; rfl)
      refine offH (i := 19) (d := (some 31)) (a' := ?_) (by kernel_rfl) (by kernel_rfl) (by kernel_rfl) (by kernel_rfl) (fun _ _ _ h => h) HH ?_ ?_
      rotate_left 1
      · (simp only [Act.put, List.setIfInBounds_toArray, List.set_cons_succ, List.set_cons_zero]; rfl)
      refine onH (i := 20) (d := (some 32)) (v := ?_) (a' := ?_) (by kernel_rfl) (by kernel_rfl) (by kernel_rfl) (by kernel_rfl) (fun _ _ _ h => h) ?_ HH ?_ ?_
      rotate_left 2
      · (intro o ho w' hSw; simp only [List.getElem?_toArray, List.getElem?_cons_succ, List.getElem?_cons_zero, Option.some.injEq] at ho; subst ho; (try dsimp only at hSw); go_simp; try with_reducible rfl)
      · (simp only [Act.put, List.setIfInBounds_toArray, List.set_cons_succ, List.set_cons_zero]; rfl)
      refine onH (i := 21) (d := (some 4)) (v := ?_) (a' := ?_) (by kernel_rfl) (by kernel_rfl) (by kernel_rfl) (by kernel_rfl) (fun _ _ _ h => h) ?_ HH ?_ ?_
      rotate_left 2
      · (intro o ho w' hSw; simp only [List.getElem?_toArray, List.getElem?_cons_succ, List.getElem?_cons_zero, Option.some.injEq] at ho; subst ho; (try dsimp only at hSw); go_simp; try with_reducible rfl)
      · (simp only [Act.put, List.setIfInBounds_toArray, List.set_cons_succ, List.set_cons_zero]; rfl)
      refine wpAnyH_done (by kernel_rfl) ?_ _
      have hbe := below_trans' hB0 hB0.size hD1
      clear s0
      go_wp2_with fail
      go_ret
      exact ⟨rfl, hbe⟩
    | true =>
      by_cases h1 : r1 ≤ 0
      · have hR2 : R = decide (r2 ≤ 0) := by rw [HR1.out, decide_eq_true h1]; rfl
        have HR2 := Lib.hid hR2
        clear hR2
        go_region_held3 (fun w' => (w'.cell? ⟨w.heap.size, 0, none⟩ = some (.int .i64 a) ∧ w'.cell? ⟨w.heap.size, 1, none⟩ = some (.int .i64 b)) ∧ (w'.cell? ⟨w1.heap.size, 0, none⟩ = some (.bool bb) ∧ w'.cell? ⟨w1.heap.size, 1, none⟩ = some (.slice A1 n1 c1) ∧ w'.cell? ⟨w1.heap.size, 2, none⟩ = some (.slice A2 n2 c2)))
          (first | with_reducible exact s0 | with_reducible exact s1' | with_reducible exact s2' | with_reducible exact s3' | with_reducible exact s4' | with_reducible exact s5')
          (first
            | (go_at_call 101; (with_reducible refine (HV1.out _).mono ?_); rintro e y1 ⟨rfl, hb1'⟩; have hD1 := below_trans' hbd hbd.size hb1'; have s1' := HS.out _ hD1; have fx1 := fxd.below hb1')
            | (go_at_call 69; (with_reducible refine (make69q a y1 ha).mono ?_); rintro e y2 ⟨f1, rfl, hf1, hb2'⟩; have hD2 := below_trans' hD1 hD1.size hb2'; have s2' := HS.out _ hD2; have fx2 := fx1.below hb2')
            | (go_at_call 84; (with_reducible refine (HC1.out _ _ hf1 fx2).mono ?_); rintro e y3 ⟨rfl, hb3'⟩; have hD3 := below_trans' hD2 hD2.size hb3'; have s3' := HS.out _ hD3; have fx3 := fx2.below hb3')
            | (go_at_call 69; (with_reducible refine (make69q b y3 hb).mono ?_); rintro e y4 ⟨f2, rfl, hf2, hb4'⟩; have hD4 := below_trans' hD3 hD3.size hb4'; have s4' := HS.out _ hD4; have fx4 := fx3.below hb4')
            | (go_at_call 84; (with_reducible refine (HC2.out _ _ fx4 hf2).mono ?_); rintro e y5 ⟨rfl, hb5'⟩; have hD5 := below_trans' hD4 hD4.size hb5'; have s5' := HS.out _ hD5))
        all_goals
          have hbe := below_trans' hB0 hB0.size hD5
          clear s0 s1' s2' s3' s4' s5'
          go_wp2_with fail
          go_ret
          exact ⟨congrArg (fun c => Ending.returned (.bool c)) HR2.out.symm, hbe⟩
      · have hR2 : R = false := by rw [HR1.out, decide_eq_false h1]; rfl
        subst hR2
        refine wp_region_held_drew (S := (fun w' => (w'.cell? ⟨w.heap.size, 0, none⟩ = some (.int .i64 a) ∧ w'.cell? ⟨w.heap.size, 1, none⟩ = some (.int .i64 b)) ∧ (w'.cell? ⟨w1.heap.size, 0, none⟩ = some (.bool bb) ∧ w'.cell? ⟨w1.heap.size, 1, none⟩ = some (.slice A1 n1 c1) ∧ w'.cell? ⟨w1.heap.size, 2, none⟩ = some (.slice A2 n2 c2)))) (by kernel_rfl) s0 (fun HH => ?_)
        refine onH (i := 0) (d := (some 12)) (v := ?_) (a' := ?_) (by kernel_rfl) (by kernel_rfl) (by kernel_rfl) (by kernel_rfl) (fun _ _ _ h => h) ?_ HH ?_ ?_
        rotate_left 2
        · (intro o ho w' hSw; simp only [List.getElem?_toArray, List.getElem?_cons_zero, Option.some.injEq] at ho; subst ho; (try dsimp only at hSw); go_simp; try with_reducible rfl)
        · (simp only [Act.put, List.setIfInBounds_toArray, List.set_cons_succ, List.set_cons_zero]; rfl)
        refine onH (i := 1) (d := (some 13)) (v := ?_) (a' := ?_) (by kernel_rfl) (by kernel_rfl) (by kernel_rfl) (by kernel_rfl) (fun _ _ _ h => h) ?_ HH ?_ ?_
        rotate_left 2
        · (intro o ho w' hSw; simp only [List.getElem?_toArray, List.getElem?_cons_succ, List.getElem?_cons_zero, Option.some.injEq] at ho; subst ho; (try dsimp only at hSw); go_simp; try with_reducible rfl)
        · (simp only [Act.put, List.setIfInBounds_toArray, List.set_cons_succ, List.set_cons_zero]; rfl)
        refine onH (i := 2) (d := (some 14)) (v := ?_) (a' := ?_) (by kernel_rfl) (by kernel_rfl) (by kernel_rfl) (by kernel_rfl) (fun _ _ _ h => h) ?_ HH ?_ ?_
        rotate_left 2
        · (intro o ho w' hSw; simp only [List.getElem?_toArray, List.getElem?_cons_succ, List.getElem?_cons_zero, Option.some.injEq] at ho; subst ho; (try dsimp only at hSw); go_simp; try with_reducible rfl)
        · (simp only [Act.put, List.setIfInBounds_toArray, List.set_cons_succ, List.set_cons_zero]; rfl)
        refine oneH (i := 3) (by kernel_rfl) (fun o ho K hK => ?_)
        simp only [List.getElem?_toArray, List.getElem?_cons_succ, List.getElem?_cons_zero, Option.some.injEq] at ho; subst ho
        go_simp
        go_at_call 101; refine (HV1.out _).mono ?_; rintro e y1 ⟨rfl, hb1'⟩; have hD1 := below_trans' hbd hbd.size hb1'; have fx1 := fxd.below hb1'
        refine hK.out _ _ ?_ (fun HH => ?_)
        · exact HS.out _ hD1
        clear hK K
        (try simp only [Act.put, List.setIfInBounds_toArray, List.set_cons_zero, List.set_cons_succ])
        refine onH (i := 4) (d := (some 16)) (v := ?_) (a' := ?_) (by kernel_rfl) (by kernel_rfl) (by kernel_rfl) (by kernel_rfl) (fun _ _ _ h => h) ?_ HH ?_ ?_
        rotate_left 2
        · (intro o ho w' hSw; simp only [List.getElem?_toArray, List.getElem?_cons_succ, List.getElem?_cons_zero, Option.some.injEq] at ho; subst ho; (try dsimp only at hSw); go_simp; try with_reducible rfl)
        · (simp only [Act.put, List.setIfInBounds_toArray, List.set_cons_succ, List.set_cons_zero]; rfl)
        refine onH (i := 5) (d := (some 17)) (v := ?_) (a' := ?_) (by kernel_rfl) (by kernel_rfl) (by kernel_rfl) (by kernel_rfl) (fun _ _ _ h => h) ?_ HH ?_ ?_
        rotate_left 2
        · (intro o ho w' hSw; simp only [List.getElem?_toArray, List.getElem?_cons_succ, List.getElem?_cons_zero, Option.some.injEq] at ho; subst ho; (try dsimp only at hSw); go_simp; try with_reducible rfl)
        · (simp only [Act.put, List.setIfInBounds_toArray, List.set_cons_succ, List.set_cons_zero]; rfl)
        refine onH (i := 6) (d := (some 18)) (v := ?_) (a' := ?_) (by kernel_rfl) (by kernel_rfl) (by kernel_rfl) (by kernel_rfl) (fun _ _ _ h => h) ?_ HH ?_ ?_
        rotate_left 2
        · (intro o ho w' hSw; simp only [List.getElem?_toArray, List.getElem?_cons_succ, List.getElem?_cons_zero, Option.some.injEq] at ho; subst ho; (try dsimp only at hSw); go_simp; try with_reducible rfl)
        · (simp only [Act.put, List.setIfInBounds_toArray, List.set_cons_succ, List.set_cons_zero]; rfl)
        refine onH (i := 7) (d := (some 19)) (v := ?_) (a' := ?_) (by kernel_rfl) (by kernel_rfl) (by kernel_rfl) (by kernel_rfl) (fun _ _ _ h => h) ?_ HH ?_ ?_
        rotate_left 2
        · (intro o ho w' hSw; simp only [List.getElem?_toArray, List.getElem?_cons_succ, List.getElem?_cons_zero, Option.some.injEq] at ho; subst ho; (try dsimp only at hSw); go_simp; try with_reducible rfl)
        · (simp only [Act.put, List.setIfInBounds_toArray, List.set_cons_succ, List.set_cons_zero]; rfl)
        refine onH (i := 9) (d := (some 21)) (v := ?_) (a' := ?_) (by kernel_rfl) (by kernel_rfl) (by kernel_rfl) (by kernel_rfl) (fun _ _ _ h => h) ?_ HH ?_ ?_
        rotate_left 2
        · (intro o ho w' hSw; simp only [List.getElem?_toArray, List.getElem?_cons_succ, List.getElem?_cons_zero, Option.some.injEq] at ho; subst ho; (try dsimp only at hSw); go_simp; try with_reducible rfl)
        · (simp only [Act.put, List.setIfInBounds_toArray, List.set_cons_succ, List.set_cons_zero]; rfl)
        refine oneH (i := 8) (by kernel_rfl) (fun o ho K hK => ?_)
        simp only [List.getElem?_toArray, List.getElem?_cons_succ, List.getElem?_cons_zero, Option.some.injEq] at ho; subst ho
        go_simp
        go_at_call 69; refine (make69q a y1 ha).mono ?_; rintro e y2 ⟨f1, rfl, hf1, hb2'⟩; have hD2 := below_trans' hD1 hD1.size hb2'; have fx2 := fx1.below hb2'
        refine hK.out _ _ ?_ (fun HH => ?_)
        · exact HS.out _ hD2
        clear hK K
        (try simp only [Act.put, List.setIfInBounds_toArray, List.set_cons_zero, List.set_cons_succ])
        refine oneH (i := 10) (by kernel_rfl) (fun o ho K hK => ?_)
        simp only [List.getElem?_toArray, List.getElem?_cons_succ, List.getElem?_cons_zero, Option.some.injEq] at ho; subst ho
        go_simp
        go_at_call 84; refine (HC1.out _ _ hf1 fx2).mono ?_; rintro e y3 ⟨rfl, hb3'⟩; have hD3 := below_trans' hD2 hD2.size hb3'
        refine hK.out _ _ ?_ (fun HH => ?_)
        · exact HS.out _ hD3
        clear hK K
        (try simp only [Act.put, List.setIfInBounds_toArray, List.set_cons_zero, List.set_cons_succ])
        refine onH (i := 11) (d := (some 23)) (v := ?_) (a' := ?_) (by kernel_rfl) (by kernel_rfl) (by kernel_rfl) (by kernel_rfl) (fun _ _ _ h => h) ?_ HH ?_ ?_
        rotate_left 2
        · (intro o ho w' hSw; simp only [List.getElem?_toArray, List.getElem?_cons_succ, List.getElem?_cons_zero, Option.some.injEq] at ho; subst ho; (try dsimp only at hSw); go_simp; try with_reducible rfl)
        · (simp only [Act.put, List.setIfInBounds_toArray, List.set_cons_succ, List.set_cons_zero]; rfl)
        refine onH (i := 12) (d := (some 24)) (v := ?_) (a' := ?_) (by kernel_rfl) (by kernel_rfl) (by kernel_rfl) (by kernel_rfl) (fun _ _ _ h => h) ?_ HH ?_ ?_
        rotate_left 2
        · (intro o ho w' hSw; simp only [List.getElem?_toArray, List.getElem?_cons_succ, List.getElem?_cons_zero, Option.some.injEq] at ho; subst ho; (try dsimp only at hSw); go_simp; try with_reducible rfl)
        · (simp only [Act.put, List.setIfInBounds_toArray, List.set_cons_succ, List.set_cons_zero]; rfl)
        refine onH (i := 13) (d := (some 25)) (v := ?_) (a' := ?_) (by kernel_rfl) (by kernel_rfl) (by kernel_rfl) (by kernel_rfl) (fun _ _ _ h => h) ?_ HH ?_ ?_
        rotate_left 2
        · (intro o ho w' hSw; simp only [List.getElem?_toArray, List.getElem?_cons_succ, List.getElem?_cons_zero, Option.some.injEq] at ho; subst ho; (try dsimp only at hSw); go_simp; try with_reducible rfl)
        · (simp only [Act.put, List.setIfInBounds_toArray, List.set_cons_succ, List.set_cons_zero]; rfl)
        refine offH (i := 14) (d := (some 26)) (a' := ?_) (by kernel_rfl) (by kernel_rfl) (by kernel_rfl) (by kernel_rfl) (fun _ _ _ h => h) HH ?_ ?_
        rotate_left 1
        · (simp only [Act.put, List.setIfInBounds_toArray, List.set_cons_succ, List.set_cons_zero]; rfl)
        refine offH (i := 15) (d := (some 27)) (a' := ?_) (by kernel_rfl) (by kernel_rfl) (by kernel_rfl) (by kernel_rfl) (fun _ _ _ h => h) HH ?_ ?_
        rotate_left 1
        · (simp only [Act.put, List.setIfInBounds_toArray, List.set_cons_succ, List.set_cons_zero]; rfl)
        refine offH (i := 16) (d := (some 28)) (a' := ?_) (by kernel_rfl) (by kernel_rfl) (by kernel_rfl) (by kernel_rfl) (fun _ _ _ h => h) HH ?_ ?_
        rotate_left 1
        · (simp only [Act.put, List.setIfInBounds_toArray, List.set_cons_succ, List.set_cons_zero]; rfl)
        refine offH (i := 17) (d := (some 29)) (a' := ?_) (by kernel_rfl) (by kernel_rfl) (by kernel_rfl) (by kernel_rfl) (fun _ _ _ h => h) HH ?_ ?_
        rotate_left 1
        · (simp only [Act.put, List.setIfInBounds_toArray, List.set_cons_succ, List.set_cons_zero]; rfl)
        refine offH (i := 18) (d := (some 30)) (a' := ?_) (by kernel_rfl) (by kernel_rfl) (by kernel_rfl) (by kernel_rfl) (fun _ _ _ h => h) HH ?_ ?_
        rotate_left 1
        · (simp only [Act.put, List.setIfInBounds_toArray, List.set_cons_succ, List.set_cons_zero]; rfl)
        refine offH (i := 19) (d := (some 31)) (a' := ?_) (by kernel_rfl) (by kernel_rfl) (by kernel_rfl) (by kernel_rfl) (fun _ _ _ h => h) HH ?_ ?_
        rotate_left 1
        · (simp only [Act.put, List.setIfInBounds_toArray, List.set_cons_succ, List.set_cons_zero]; rfl)
        refine onH (i := 20) (d := (some 32)) (v := ?_) (a' := ?_) (by kernel_rfl) (by kernel_rfl) (by kernel_rfl) (by kernel_rfl) (fun _ _ _ h => h) ?_ HH ?_ ?_
        rotate_left 2
        · (intro o ho w' hSw; simp only [List.getElem?_toArray, List.getElem?_cons_succ, List.getElem?_cons_zero, Option.some.injEq] at ho; subst ho; (try dsimp only at hSw); go_simp; try with_reducible rfl)
        · (simp only [Act.put, List.setIfInBounds_toArray, List.set_cons_succ, List.set_cons_zero]; rfl)
        refine onH (i := 21) (d := (some 4)) (v := ?_) (a' := ?_) (by kernel_rfl) (by kernel_rfl) (by kernel_rfl) (by kernel_rfl) (fun _ _ _ h => h) ?_ HH ?_ ?_
        rotate_left 2
        · (intro o ho w' hSw; simp only [List.getElem?_toArray, List.getElem?_cons_succ, List.getElem?_cons_zero, Option.some.injEq] at ho; subst ho; (try dsimp only at hSw); go_simp; try with_reducible rfl)
        · (simp only [Act.put, List.setIfInBounds_toArray, List.set_cons_succ, List.set_cons_zero]; rfl)
        refine wpAnyH_done (by kernel_rfl) ?_ _
        have hbe := below_trans' hB0 hB0.size hD3
        clear s0
        go_wp2_with fail
        go_ret
        exact ⟨rfl, hbe⟩
end Go.Proofs.YtpligjkbnlfhgaaDoor
