/- The reference's Step: a copy by append. -/
import Derived.Test.YtgonighpjpfmnaaBal2
import Derived.Deep.AppendSrc
import Derived.Test.YtgonighpjpfmnaaLoose2
namespace Go.Proofs.Ytgonighpjpfmnaa
open Go.RowKit

/-- append([]int{}, l...) -/
theorem copy_run (w : World) (g B : Nat) (hg : w.heap[g]? = some (.cells #[] 3 (0, 0))) (hB : B ≤ g) (A : Option Addr) (n c : Nat) (f : Nat → Int) (hn : n ≤ 1048576) (h : RowsAt w w.heap.size 1 A n fun i => [.int .i64 (f i)]) :
    ∃ v w', (Builtin.append_ #[44, 44] 44 #[.slice (some ⟨g, 0, none⟩) 0 0, .slice A n c]).run Try.prog w = .ok v w' ∧ Own intC 3 1 w' B v ((List.range n).map f) ∧ Below B w w' := by
  obtain ⟨i0, hi, hz0, hz1, hz2⟩ := info_parts info3
  have hown : w.ownsRow B 3 1 (.slice (some ⟨g, 0, none⟩) 0 0) 0 [] := ⟨rfl, .inr ⟨g, 0, #[], rfl, hB, hg, Nat.le_refl _, Nat.zero_le _, rfl, rfl⟩⟩
  cases A with
  | none =>
    by_cases h0 : n = 0
    · subst h0
      have hs := run_append_room_src (P := Try.prog) w 44 44 44 3 i0 Try.underlying44 hi g 0 0 0 (.slice none 0 c) 0 [] (Src.ofNil w Try.underlying44 c) (by omega) (by simp) (by simp)
      exact ⟨_, _, hs, hown, Below.refl _ _⟩
    · obtain ⟨b, off, hA, _⟩ := h (by omega)
      cases hA
  | some ad =>
    have hc : ∀ j u, (((List.range n).map f).map (Value.int .i64))[j]? = some u → w.cell? (ad.add j) = some u := fun j u hu => by
      have hj : j < n := by have := (List.getElem?_eq_some_iff.1 hu).1; simpa using this
      obtain ⟨b, off, hA, _, hc⟩ := h (by omega)
      cases hA
      have := hc j hj 0 _ rfl
      rw [List.getElem?_map, List.getElem?_map, List.getElem?_range hj] at hu
      simp only [Option.map_some, Option.some.injEq] at hu
      rw [← hu, Go.WideShapes.add_plain]
      simpa using this
    obtain ⟨v', w', hr, h2, h3, _, _⟩ := run_append_own_at (P := Try.prog) w B 44 44 3 i0 (.int .i64 0) 1 8 Try.underlying44 hi hz0 hz1 hz2 rfl (by omega) (.slice (some ⟨g, 0, none⟩) 0 0) 0 [] hown ad n c (((List.range n).map f).map (Value.int .i64)) (by simp) hc (fun u hu => by
      simp only [List.mem_map] at hu
      obtain ⟨_, _, rfl⟩ := hu
      rfl) (by unfold maxLen; omega) (by omega) (by have := lt_of_blk hg; omega)
    refine ⟨v', w', hr, ?_, ?_⟩
    · unfold Own
      rw [flat_intC, List.length_map, List.length_range]
      simpa using h2
    · refine (Below.refl B w).grown h3 (by have := lt_of_blk hg; omega) (fun q hq => ?_)
      simp only [Value.ownBlock, Option.some.injEq] at hq
      omega

theorem wpList_append_eq {P : Program} {ops : Array Oper} {rest : List Oper} {o : Oper} {a : Act} {Q : Exit → Act → World → Prop} {w : World} (hgd : o.guard = none) (s x : Operand) (t : TypeId)
    (ho : o.op = .call { callee := .builtin .append, args := #[s, x], argTypes := #[t, t] }) (v1 v2 : Value) (h1 : a.eval s = v1) (h2 : a.eval x = v2) {v : Value} {w' : World}
    (h : (Builtin.append_ #[t, t] o.type #[v1, v2]).run P w = .ok v w') (hk : wpList P ops Q rest (a.put o.dst v) w') : wpList P ops Q (o :: rest) a w :=
  wpList_plain hgd fun _ hK => by
    unfold Oper.wp execOp
    simp only [ho, resolve, invoke, builtin, Sem.run_bind, Sem.run_pure, Result.andThen_ok, List.map_toArray, List.map_cons, List.map_nil, h1, h2, h]
    exact hK _ _ hk

set_option maxRecDepth 100000 in
set_option maxHeartbeats 2000000 in
theorem step53 (x : Int) (A1 A2 : Option Addr) (n m c1 c2 : Nat) (c v : Nat → Int) (arm : Int) (w : World) (hn : n ≤ 1048576) (hm : m ≤ 1048576) (hx : x ≤ 9223372036854775807) (h1 : RowsAt w w.heap.size 1 A1 n fun i => [.int .i64 (c i)]) (h2 : RowsAt w w.heap.size 1 A2 m fun i => [.int .i64 (v i)]) :
    Calls Try.prog 53 #[.int .i64 x, .slice A1 n c1, .slice A2 m c2, .int .i64 arm] w fun e w' => ∃ o, e = .returned (.tuple #[.int .i64 (balW x n m c v arm), o]) ∧ Own intC 3 1 w' w.heap.size o (balC x n m c v arm) ∧ Below w.heap.size w w' := by
  have hb0 : Below w.heap.size w (w.alloc (.cells #[] 3)) := (Below.refl _ _).alloc (Nat.le_refl _) _
  obtain ⟨o, w1, hrun, hown, hb1⟩ := copy_run (w.alloc (.cells #[] 3)) w.heap.size w.heap.size (heap_alloc_new w _) (Nat.le_refl _) A1 n c1 c hn ((h1.below hb0 (Nat.le_refl _)).more hb0.size)
  replace hb1 := hb0.trans hb1
  have h1o := h1
  have h2o := h2
  replace h1 := (h1.below hb1 (Nat.le_refl _)).more hb1.size
  replace h2 := (h2.below hb1 (Nat.le_refl _)).more hb1.size
  go_enter Try.func53, Try.ntmps53
  go_wp2_with (at_builtin; refine wpList_append_eq (by rfl) (.tmp 14) (.tmp 15) 44 (by rfl) _ _ (by rfl) (by rfl) hrun ?_)
  refine (valid91 x A1 A2 n m c1 c2 c v arm w1 hn hm h1 h2).mono ?_
  rintro e _ ⟨rfl, rfl⟩
  cases hok : okB x n m c v arm with
  | false =>
    have e1 : balW x n m c v arm = x := by rw [balW, if_neg (by rw [hok]; decide)]
    have e2 : balC x n m c v arm = (List.range n).map c := by rw [balC, if_neg (by rw [hok]; decide)]
    have E1 := Lib.hid e1
    have E2 := Lib.hid e2
    clear e1 e2
    go_wp2_with fail
    go_ret2
    exact ⟨_, by rw [E1.out]; rfl, by rw [E2.out]; exact hown, hb1⟩
  | true =>
    have hH : okH x n m arm := by
      have := hok; simp only [okB, Bool.and_eq_true, decide_eq_true_eq] at this; exact this.1
    have hC : okC c v n = true := by rw [← okB_ok hH]; exact hok
    have e1 : balW x n m c v arm = growI x ((c (arm - 1).toNat + 1) * sumI v n) ((sumI c n + n) * v (arm - 1).toNat) := by rw [balW, if_pos hok]
    have e2 : balC x n m c v arm = ((List.range n).map c).set (arm - 1).toNat (c (arm - 1).toNat + 1) := by rw [balC, if_pos hok]
    obtain ⟨g1, g2, rfl, g4, g5, g6, g7⟩ := hH
    obtain ⟨a, rfl⟩ : ∃ a : Nat, arm = a + 1 := ⟨(arm - 1).toNat, by omega⟩
    rw [show ((a : Int) + 1 - 1).toNat = a by omega] at e1 e2
    have hbd := sum_bd hC g5
    have han : a < n := by omega
    obtain ⟨p1, p2, p3, p4⟩ := okC_iff.1 hC a han
    have E1 := Lib.hid e1
    have E2 := Lib.hid e2
    have HB := Lib.hid hbd
    clear e1 e2 hbd hok hC
    go_wp2_with fail
    go_loopg [13, 11, 12] n (fun m i s t wr => ∃ j : Nat, j ≤ n ∧ m = n - j ∧ i = .int .i64 j ∧ s = .int .i64 (sumI c j) ∧ t = .int .i64 (sumI v j) ∧ Below w1.heap.size w1 wr)
    case atStart => exact ⟨0, by omega, by omega, rfl, rfl, rfl, Below.refl _ _⟩
    case round =>
      obtain ⟨j, hj, hmj, rfl, rfl, rfl, hbr⟩ := hrel
      have HMJ := Lib.hid hmj
      clear hmj
      by_cases hjn : j < n
      · obtain ⟨b, off, rfl, _, hc⟩ := (h1.below hbr (Nat.le_refl _)) (by omega)
        obtain ⟨b', off', rfl, _, hc'⟩ := (h2.below hbr (Nat.le_refl _)) (by omega)
        have v0 := hc j hjn 0 _ rfl
        have u0 := hc' j hjn 0 _ rfl
        simp only [Nat.add_zero, Nat.mul_one] at v0 u0
        have k1 := HB.out j (by omega)
        have k2 := HB.out (j + 1) (by omega)
        have e3 : sumI c (j + 1) = sumI c j + c j := rfl
        have e4 : sumI v (j + 1) = sumI v j + v j := rfl
        rw [e3, e4] at k2
        have E3 := Lib.hid e3
        have E4 := Lib.hid e4
        clear hc hc' h1 h2 e3 e4
        go_wp2_with fail
        go_quiet (fail)
        go_wp2_with fail
        go_roundg (n - (j + 1))
        case measure => have := HMJ.out; omega
        case rel => exact ⟨j + 1, by omega, rfl, by go_num, by rw [E3.out], by rw [E4.out], below_drewN hbr _⟩
      · obtain rfl : j = n := by omega
        obtain ⟨q1, q2, q3, q4⟩ := HB.out j (by omega)
        have E1' := E1.out
        generalize sumI c j = N at *
        generalize sumI v j = S at *
        have hbw := below_trans' hb1 hb1.size hbr
        obtain ⟨b, off, rfl, hblt, hc⟩ := (h1o.below hbw (Nat.le_refl _)) (by omega)
        obtain ⟨b', off', rfl, hblt', hc'⟩ := (h2o.below hbw (Nat.le_refl _)) (by omega)
        have v0 := hc a han 0 _ rfl
        have u0 := hc' a han 0 _ rfl
        simp only [Nat.add_zero, Nat.mul_one] at v0 u0
        have hownr := Own.below hown hbr
        have hlen : ((List.range j).map c).length = j := by simp
        have hget : ((List.range j).map c).getD a 0 = c a := by rw [List.getD_eq_getElem?_getD, List.getElem?_map, List.getElem?_range han]; rfl
        obtain ⟨g, cap, cur, ho, hgB, hgb, hcap⟩ := own_some hownr (by rw [hlen]; omega)
        rw [hlen] at ho
        subst ho
        have hor := (Own.rows (c := intC) intC_len 0 hownr).at (i := a) (by rw [hlen]; exact han) (j := 0) (u := .int .i64 (c a)) (by rw [hget]; rfl)
        simp only [Nat.mul_one, Nat.add_zero, Nat.zero_add] at hor
        have hfr := free_of_block hgb a
        have hset := own_setI hownr hlen.symm a (by rw [hlen]; exact han) (c a + 1)
        obtain ⟨X, rfl⟩ := Int.eq_ofNat_of_zero_le g1
        have m1 := mul_le4 (a := S) (b := c a + 1) (A := 80000) (B := 513) (by omega) (by omega) (by omega) (by omega) (by omega)
        have m2 := mul_le4 (a := v a) (b := N + j) (A := 10000) (B := 4104) (by omega) (by omega) (by omega) (by omega) (by omega)
        have m3 : 0 ≤ (c a + 1) * S := Int.mul_nonneg (by omega) (by omega)
        have m4 : 0 < (N + j) * v a := Int.mul_pos (by omega) (by omega)
        obtain ⟨Nu, hNu⟩ := Int.eq_ofNat_of_zero_le m3
        obtain ⟨De, hDe⟩ := Int.eq_ofNat_of_zero_le (Int.le_of_lt m4)
        rw [hNu] at m1 m3
        rw [hDe] at m2 m4
        rw [hNu, hDe] at E1'
        have i1 : IntKind.i64.wrap ((c a + 1) * S) = Nu := by rw [hNu]; exact IntWalk.i64_in _ (by omega)
        have i2 : IntKind.i64.wrap ((N + j) * v a) = De := by rw [hDe]; exact IntWalk.i64_in _ (by omega)
        have E1'' := Lib.hid E1'
        clear E1' hNu hDe hc hc' h1 h2 hown hownr hgb hget E1
        have hfin : Below w.heap.size w (wr.setCell ⟨g, a, none⟩ (.int .i64 (c a + 1))) := hbw.setCell hgB _
        go_upto_region 10 with fail
        have hwx : ∀ y : Beh LeW (wr.setCell ⟨g, a, none⟩ (.int .i64 (c a + 1))).drew, Below w.heap.size wr y.w := fun y => ((Below.refl _ wr).setCell hgB _).trans ((Below.trans (Below.refl _ _).drew y.h).mono hfin.size)
        have q0 : ∀ y : Beh LeW (wr.setCell ⟨g, a, none⟩ (.int .i64 (c a + 1))).drew, y.w.cell? ⟨b, off + a, none⟩ = some (.int .i64 (c a)) := fun y => ((hwx y).cell hblt).trans v0
        have q1 : ∀ y : Beh LeW (wr.setCell ⟨g, a, none⟩ (.int .i64 (c a + 1))).drew, y.w.cell? ⟨b', off' + a, none⟩ = some (.int .i64 (v a)) := fun y => ((hwx y).cell hblt').trans u0
        have hown2 := hset.1
        clear hset hor hfr v0 u0
        generalize hwr' : wr.setCell ⟨g, a, none⟩ (.int .i64 (c a + 1)) = wq at *
        clear hwr'
        refine wp_region_looseM (R := LeW) 21 71 [20] [(19, [], none)] (by kernel_rfl) (by kernel_rfl) (by kernel_rfl) (by kernel_rfl) (fun _ _ _ _ _ _ h => h) rfl LeW.refl (fun _ _ _ => LeW.trans) ?_
        simp only [Late, List.take_succ_cons, List.drop_succ_cons, List.take_zero, List.drop_zero, Nat.sub_zero]
        repeat (go_big_quiet_step (fail))
        refine wpQuiet_nil ?_
        refine late_call (c := .int .i64 (growI X Nu De)) Try.func46 (by kernel_rfl) (by kernel_rfl) (fun y => (grow46 X Nu De y.w (by omega) (by omega)).mono fun e w' ⟨he, mm, hw⟩ => ⟨he, by rw [hw]; exact below_drewN (Below.refl _ _) mm⟩) rfl (by simp only [Act.put, List.setIfInBounds_toArray, List.set_cons_succ, List.set_cons_zero]; rfl) ?_
        repeat (go_big_quiet_step (fail))
        refine wpQuiet_nil ?_
        intro y
        simp only [allGens]
        have hown3 := Own.below hown2 (Below.trans (Below.refl _ wq).drew y.h)
        have hfin2 : Below w.heap.size w y.w := hfin.trans ((Below.trans (Below.refl _ wq).drew y.h).mono hfin.size)
        clear hown2 hfin q0 q1 hwx
        generalize y.w = wz at *
        generalize hG : growI X Nu De = G at *
        clear hG
        go_wp2_with fail
        go_ret2
        exact ⟨_, by rw [E1''.out]; rfl, by rw [E2.out]; exact hown3, hfin2⟩
end Go.Proofs.Ytgonighpjpfmnaa
