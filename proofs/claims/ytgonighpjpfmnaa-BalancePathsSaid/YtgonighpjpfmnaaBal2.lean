/- balance.Step. -/
import Derived.Test.YtgonighpjpfmnaaBal1
namespace Go.Proofs.Ytgonighpjpfmnaa
open Go.RowKit

theorem sum_bd {c v : Nat → Int} {n : Nat} (h : okC c v n = true) (hn : n ≤ 8) : ∀ k, k ≤ n → 0 ≤ sumI c k ∧ sumI c k ≤ 4096 ∧ (k : Int) ≤ sumI v k ∧ sumI v k ≤ 80000 := fun k hk => by
  have hh := okC_iff.1 h
  have h1 := sumI_bd (f := c) (n := n) (a := 0) (b := 512) (fun k hk => by have := hh k hk; omega) k hk
  have h2 := sumI_bd (f := v) (n := n) (a := 1) (b := 10000) (fun k hk => by have := hh k hk; omega) k hk
  omega

set_option maxRecDepth 100000 in
set_option maxHeartbeats 2000000 in
theorem step52 (x : Int) (A1 A2 : Option Addr) (n m c1 c2 : Nat) (c v : Nat → Int) (arm : Int) (w : World) (hn : n ≤ 1048576) (hm : m ≤ 1048576) (h1 : RowsAt w w.heap.size 1 A1 n fun i => [.int .i64 (c i)]) (h2 : RowsAt w w.heap.size 1 A2 m fun i => [.int .i64 (v i)]) :
    Calls Try.prog 52 #[.int .i64 x, .slice A1 n c1, .slice A2 m c2, .int .i64 arm] w fun e w' => ∃ o, e = .returned (.tuple #[.int .i64 (balW x n m c v arm), o]) ∧ Own intC 3 1 w' w.heap.size o (balC x n m c v arm) ∧ Below w.heap.size w w' := by
  go_enter Try.func52, Try.ntmps52
  go_wp2_with fail
  refine (clone89 A1 n c1 c w hn h1).mono ?_
  rintro e w1 ⟨o, rfl, hown, hb1⟩
  replace h1 := (h1.below hb1 (Nat.le_refl _)).more hb1.size
  replace h2 := (h2.below hb1 (Nat.le_refl _)).more hb1.size
  go_wp2_with fail
  refine (valid90 x A1 A2 n m c1 c2 c v arm w1 hn hm h1 h2).mono ?_
  rintro e _ ⟨rfl, rfl⟩
  cases hok : okB x n m c v arm with
  | false =>
    have e1 : balW x n m c v arm = x := by rw [balW, if_neg (by rw [hok]; decide)]
    have e2 : balC x n m c v arm = (List.range n).map c := by rw [balC, if_neg (by rw [hok]; decide)]
    have E1 := Lib.hid e1
    have E2 := Lib.hid e2
    clear e1 e2
    go_wp2_with fail
    go_ret2
    exact ⟨_, by rw [E1.out]; rfl, by rw [E2.out]; exact hown, hb1⟩
  | true =>
    have hH : okH x n m arm := by
      have := hok; simp only [okB, Bool.and_eq_true, decide_eq_true_eq] at this; exact this.1
    have hC : okC c v n = true := by rw [← okB_ok hH]; exact hok
    have e1 : balW x n m c v arm = growI x ((c (arm - 1).toNat + 1) * sumI v n) ((sumI c n + n) * v (arm - 1).toNat) := by rw [balW, if_pos hok]
    have e2 : balC x n m c v arm = ((List.range n).map c).set (arm - 1).toNat (c (arm - 1).toNat + 1) := by rw [balC, if_pos hok]
    obtain ⟨g1, g2, rfl, g4, g5, g6, g7⟩ := hH
    obtain ⟨a, rfl⟩ : ∃ a : Nat, arm = a + 1 := ⟨(arm - 1).toNat, by omega⟩
    rw [show ((a : Int) + 1 - 1).toNat = a by omega] at e1 e2
    have hbd := sum_bd hC g5
    have han : a < n := by omega
    obtain ⟨p1, p2, p3, p4⟩ := okC_iff.1 hC a han
    have E1 := Lib.hid e1
    have E2 := Lib.hid e2
    have HB := Lib.hid hbd
    clear e1 e2 hbd hok hC
    go_wp2_with fail
    go_loopg [32, 11, 12, 13, 14] n (fun m i s t _ _ wr => ∃ j : Nat, j ≤ n ∧ m = n - j ∧ i = .int .i64 j ∧ s = .int .i64 (sumI c j) ∧ t = .int .i64 (sumI v j) ∧ Below w1.heap.size w1 wr)
    case atStart => exact ⟨0, by omega, by omega, rfl, rfl, rfl, Below.refl _ _⟩
    case round =>
      obtain ⟨j, hj, hmj, rfl, rfl, rfl, hbr⟩ := hrel
      have HMJ := Lib.hid hmj
      clear hmj
      by_cases hjn : j < n
      · obtain ⟨b, off, rfl, _, hc⟩ := (h1.below hbr (Nat.le_refl _)) (by omega)
        obtain ⟨b', off', rfl, _, hc'⟩ := (h2.below hbr (Nat.le_refl _)) (by omega)
        have v0 := hc j hjn 0 _ rfl
        have u0 := hc' j hjn 0 _ rfl
        simp only [Nat.add_zero, Nat.mul_one] at v0 u0
        have k1 := HB.out j (by omega)
        have k2 := HB.out (j + 1) (by omega)
        have e3 : sumI c (j + 1) = sumI c j + c j := rfl
        have e4 : sumI v (j + 1) = sumI v j + v j := rfl
        rw [e3, e4] at k2
        have E3 := Lib.hid e3
        have E4 := Lib.hid e4
        clear hc hc' h1 h2 e3 e4
        go_wp2_with fail
        go_quiet (fail)
        go_wp2_with fail
        go_roundg (n - (j + 1))
        case measure => have := HMJ.out; omega
        case rel => exact ⟨j + 1, by omega, rfl, by go_num, by rw [E3.out], by rw [E4.out], below_drewN hbr _⟩
      · obtain rfl : j = n := by omega
        obtain ⟨q1, q2, q3, q4⟩ := HB.out j (by omega)
        have E1' := E1.out
        generalize sumI c j = N at *
        generalize sumI v j = S at *
        obtain ⟨b, off, rfl, hblt, hc⟩ := (h1.below hbr (Nat.le_refl _)) (by omega)
        obtain ⟨b', off', rfl, _, hc'⟩ := (h2.below hbr (Nat.le_refl _)) (by omega)
        have v0 := hc a han 0 _ rfl
        have u0 := hc' a han 0 _ rfl
        simp only [Nat.add_zero, Nat.mul_one] at v0 u0
        have hownr := Own.below hown hbr
        have hlen : ((List.range j).map c).length = j := by simp
        have hget : ((List.range j).map c).getD a 0 = c a := by rw [List.getD_eq_getElem?_getD, List.getElem?_map, List.getElem?_range han]; rfl
        obtain ⟨g, cap, cur, ho, hgB, hgb, hcap⟩ := own_some hownr (by rw [hlen]; omega)
        rw [hlen] at ho
        subst ho
        have hor := (Own.rows (c := intC) intC_len 0 hownr).at (i := a) (by rw [hlen]; exact han) (j := 0) (u := .int .i64 (c a)) (by rw [hget]; rfl)
        simp only [Nat.mul_one, Nat.add_zero, Nat.zero_add] at hor
        have hfr := free_of_block hgb a
        have hset := own_setI hownr hlen.symm a (by rw [hlen]; exact han) (c a + 1)
        have hbw := below_trans' hb1 hb1.size hbr
        obtain ⟨X, rfl⟩ := Int.eq_ofNat_of_zero_le g1
        have m1 := mul_le4 (a := S) (b := c a + 1) (A := 80000) (B := 513) (by omega) (by omega) (by omega) (by omega) (by omega)
        have m2 := mul_le4 (a := v a) (b := N + j) (A := 10000) (B := 4104) (by omega) (by omega) (by omega) (by omega) (by omega)
        have m3 : 0 ≤ (c a + 1) * S := Int.mul_nonneg (by omega) (by omega)
        have m4 : 0 < (N + j) * v a := Int.mul_pos (by omega) (by omega)
        obtain ⟨Nu, hNu⟩ := Int.eq_ofNat_of_zero_le m3
        obtain ⟨De, hDe⟩ := Int.eq_ofNat_of_zero_le (Int.le_of_lt m4)
        rw [hNu] at m1 m3
        rw [hDe] at m2 m4
        rw [hNu, hDe] at E1'
        have i1 : IntKind.i64.wrap ((c a + 1) * S) = Nu := by rw [hNu]; exact IntWalk.i64_in _ (by omega)
        have i2 : IntKind.i64.wrap ((N + j) * v a) = De := by rw [hDe]; exact IntWalk.i64_in _ (by omega)
        have i3 : IntKind.u64.wrap (X : Int) = X := IntWalk.u64_in _ (by omega)
        have i4 : IntKind.u64.wrap (Nu : Int) = Nu := IntWalk.u64_in _ (by omega)
        have i5 : IntKind.u64.wrap (De : Int) = De := IntWalk.u64_in _ (by omega)
        have E1'' := Lib.hid E1'
        clear E1' hNu hDe hc hc' h1 h2 hown hownr hgb hget E1
        have hfin : Below w.heap.size w (wr.setCell ⟨g, a, none⟩ (.int .i64 (c a + 1))) := hbw.setCell hgB _
        go_wp2_with fail
        refine (Try.bits_Mul64 X Nu (by omega) (by omega) wr).mono ?_
        rintro e _ ⟨rfl, hw⟩
        cases hw
        obtain ⟨hi, ehi⟩ : ∃ hi, hi = X * Nu / 18446744073709551616 := ⟨_, rfl⟩
        obtain ⟨lo, elo⟩ : ∃ lo, lo = X * Nu % 18446744073709551616 := ⟨_, rfl⟩
        have es : hi * 18446744073709551616 + lo = X * Nu := by omega
        have hlo : lo < 18446744073709551616 := by omega
        rw [← ehi, ← elo]
        have hD : 0 < De := by omega
        have hg : growI X Nu De = min 2305843009213693952 ((X : Int) * Nu / De) := by rw [growI, if_neg (by omega)]
        by_cases hh : De ≤ hi
        · have hq := grow_quot (X := X) (N := Nu) hD (by omega)
          have h6 : decide ((De : Int) ≤ (hi : Int)) = true := by simp; omega
          have em : growI X Nu De = 2305843009213693952 := by omega
          have EM := Lib.hid em
          clear ehi elo es hq em hg
          go_wp2_with fail
          go_ret2
          exact ⟨_, by rw [E1''.out, EM.out]; rfl, by rw [E2.out]; exact hset.1, hfin⟩
        · have h6 : decide ((De : Int) ≤ (hi : Int)) = false := by simp; omega
          have hq : (X : Int) * Nu / De = ((X * Nu / De : Nat) : Int) := by simp
          have hqb : X * Nu / De < 18446744073709551616 := by
            rw [Nat.div_lt_iff_lt_mul hD]; omega
          rw [hq] at hg
          have HG := Lib.hid hg
          clear ehi elo hq hg
          go_wp2_with fail
          refine (div88 hi lo De _ (by omega) (by omega) hlo).mono ?_
          rintro e _ ⟨rfl, mm, rfl⟩
          rw [es]
          clear es
          generalize X * Nu / De = q at *
          go_wp2_with fail
          go_ret2
          refine ⟨_, ?_, by rw [E2.out]; exact Own.below hset.1 (below_drewN (Below.refl _ _) mm), below_drewN hfin mm⟩
          rw [E1''.out, HG.out]
          simp
          omega
end Go.Proofs.Ytgonighpjpfmnaa
