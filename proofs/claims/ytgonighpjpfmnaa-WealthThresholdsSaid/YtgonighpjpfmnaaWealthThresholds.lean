/- The walk of flagstonelaw40.WealthThresholds. -/
import Derived.Test.YtgonighpjpfmnaaThresh
import Derived.Test.YtgonighpjpfmnaaLaw39a
namespace Go.Proofs.Ytgonighpjpfmnaa
open Go.RowKit

theorem u16_bd (a : Int) : 0 ≤ IntKind.u16.wrap a ∧ IntKind.u16.wrap a ≤ 65535 := by
  rw [IntKind.wrap_u16]
  omega

set_option maxHeartbeats 1000000 in
theorem wealthThresholds17 (a0 a1 a2 a3 : Int) (a4 : Option Addr) (len4 cap4 : Nat) (z4 : List Int) (a5 : Int) (w : World) (_ : (Lit.int .i64 a0).wf = true) (_ : (Lit.int .i64 a1).wf = true) (w2 : (Lit.int .i16 a2).wf = true) (w3 : (Lit.int .i16 a3).wf = true) (w4 : IsRow .i64 w a4 len4 cap4 z4) (_ : (Lit.int .i64 a5).wf = true) :
    Calls Try.prog 17 #[.int .i64 a0, .int .i64 a1, .int .i16 a2, .int .i16 a3, .slice a4 len4 cap4, .int .i64 a5] w fun e w' => e = .returned (.bool true) ∧ Below w.heap.size w w' := by
  have b2 := bounds_i16 w2
  have b3 := bounds_i16 w3
  obtain ⟨hR, -, -, -⟩ := w4.rows
  clear w2 w3 w4
  by_cases hlen : 100 < len4
  · go_enter Try.func17, Try.ntmps17
    go_wp2_with (go_at_call 44; refine (awake44 _).mono ?_; rintro e w' ⟨rfl, hb⟩)
    go_ret
    exact ⟨rfl, hb⟩
  · have u2 := u16_bd a2
    obtain ⟨U, hU⟩ : ∃ U, IntKind.u16.wrap a2 = U := ⟨_, rfl⟩
    rw [hU] at u2
    obtain ⟨T0, e0⟩ : ∃ T, thrI a0 a1 = T := ⟨_, rfl⟩
    obtain ⟨T1, e1⟩ : ∃ T, thrI (a2.tmod 1003) (a3.tmod 1003) = T := ⟨_, rfl⟩
    obtain ⟨N1, e2⟩ : ∃ T, firstN (fun i => z4.getD i 0) a5 len4 = T := ⟨_, rfl⟩
    have E0 := Lib.hid e0
    have E1 := Lib.hid e1
    have E2 := Lib.hid e2
    clear e0 e1 e2
    go_enter Try.func17, Try.ntmps17
    go_wp2_with fail
    refine (awake44 w).mono ?_
    rintro e w1 ⟨rfl, hb⟩
    have hR1 := (hR.below hb (Nat.le_refl _)).more hb.size
    have hd : ∀ m, RowsAt (w1.drewN m) (w1.drewN m).heap.size 1 a4 len4 fun i => [.int .i64 (z4.getD i 0)] := fun m => hR1.below (below_drewN (Below.refl _ _) m) (Nat.le_refl _)
    have HD := Lib.hid hd
    clear hd hR
    go_wp2_with fail
    refine (thr56 a0 a1 w1).mono ?_
    rintro e _ ⟨rfl, m1, rfl⟩
    rw [E0.out]
    go_wp2_with fail
    refine (thr57 a0 a1 _).mono ?_
    rintro e _ ⟨rfl, m2, rfl⟩
    rw [E0.out]
    go_wp2_with fail
    refine (thr56 (a2.tmod 1003) (a3.tmod 1003) _).mono ?_
    rintro e _ ⟨rfl, m3, rfl⟩
    rw [E1.out]
    go_wp2_with fail
    refine (thr57 (a2.tmod 1003) (a3.tmod 1003) _).mono ?_
    rintro e _ ⟨rfl, m4, rfl⟩
    rw [E1.out]
    go_wp2_with fail
    refine (first58 a4 len4 cap4 (fun i => z4.getD i 0) a5 _ (by omega) (HD.out _)).mono ?_
    rintro e _ ⟨rfl, rfl⟩
    rw [E2.out]
    go_wp2_with fail
    refine (first59 a4 len4 cap4 (fun i => z4.getD i 0) a5 _ (by omega) (HD.out _)).mono ?_
    rintro e _ ⟨rfl, rfl⟩
    rw [E2.out]
    by_cases h0 : 0 < len4
    · have r1 := Int.emod_nonneg U (show (len4 : Int) ≠ 0 by omega)
      have r2 := Int.emod_lt_of_pos U (show 0 < (len4 : Int) by omega)
      obtain ⟨R, hRe⟩ := Int.eq_ofNat_of_zero_le r1
      rw [hRe] at r2
      obtain ⟨b, off, rfl, hlt, hc⟩ := HD.out (m1 + m2 + m3 + m4) h0
      have v0 := hc R (by omega) 0 _ rfl
      obtain ⟨T, hT⟩ : ∃ T, z4.getD R 0 = T := ⟨_, rfl⟩
      simp only [Nat.add_zero, Nat.mul_one, hT] at v0
      have p1 : 0 < firstN (fun i => z4.getD i 0) T len4 := firstN_pos.2 ⟨R, by omega, by simp only [hT]; omega⟩
      obtain ⟨N2, e3⟩ : ∃ N, firstN (fun i => z4.getD i 0) T len4 = N := ⟨_, rfl⟩
      rw [e3] at p1
      have E3 := Lib.hid e3
      clear hc hT e3
      go_wp2_with fail
      refine (first58 _ len4 cap4 (fun i => z4.getD i 0) T _ (by omega) (HD.out _)).mono ?_
      rintro e _ ⟨rfl, rfl⟩
      rw [E3.out]
      go_wp2_with fail
      refine (first59 _ len4 cap4 (fun i => z4.getD i 0) T _ (by omega) (HD.out _)).mono ?_
      rintro e _ ⟨rfl, rfl⟩
      rw [E3.out]
      go_wp2_with fail
      go_ret
      exact ⟨rfl, below_drewN hb _⟩
    · obtain rfl : len4 = 0 := by omega
      go_wp2_with fail
      refine (first58 _ 0 cap4 (fun i => z4.getD i 0) a5 _ (by omega) (HD.out _)).mono ?_
      rintro e _ ⟨rfl, rfl⟩
      rw [E2.out]
      go_wp2_with fail
      refine (first59 _ 0 cap4 (fun i => z4.getD i 0) a5 _ (by omega) (HD.out _)).mono ?_
      rintro e _ ⟨rfl, rfl⟩
      rw [E2.out]
      go_wp2_with fail
      go_ret
      exact ⟨rfl, below_drewN hb _⟩
end Go.Proofs.Ytgonighpjpfmnaa
