/- Long numbers: the program's greatest common divisor. -/
import Derived.Test.YtpligjkbnlfhgaaGreatDoorNatS
namespace Go.Proofs.YtpligjkbnlfhgaaGreatDoor
open Go.RowKit

set_option maxRecDepth 100000 in
set_option maxHeartbeats 1000000 in
theorem gcd110 (K : Nat) (v1 v2 : Value) (a b : Nat) (w : World) (hK : K ≤ 200000) (hK3 : 30 ≤ K) (s1 : Sm K a) (s2 : Sm K b) (h1 : NatV 1000000000 w v1 a) (h2 : NatV 1000000000 w v2 b) :
    Calls Tryz.prog 123 #[v1, v2] w fun e w' => ∃ v, e = .returned v ∧ NatV 1000000000 w' v (Nat.gcd b a) ∧ Below w.heap.size w w' := by
  go_enter Tryz.func123, Tryz.ntmps123
  go_wp2_with fail
  go_loopg [0, 1, 5, 6] b (fun r va vb _ _ wr => ∃ (x y : Nat), r = y ∧ NatV 1000000000 wr va x ∧ NatV 1000000000 wr vb y ∧ Sm K x ∧ Sm K y ∧ Nat.gcd y x = Nat.gcd b a ∧ Below w.heap.size w wr)
  case atStart => exact ⟨a, b, rfl, h1, h2, s1, s2, rfl, Below.refl _ _⟩
  case round =>
    obtain ⟨x, y, hr, hx, hy, sx, sy, hg, hb⟩ := hrel
    have HR := Lib.hid hr
    have HG := Lib.hid hg
    clear hr hg
    have hy' := hy
    obtain ⟨A, n, c, rfl, hnc, hcm, hn0⟩ := hy.shape (by omega)
    unfold maxLen at hcm
    by_cases h0 : 0 < n
    · have hyp : y ≠ 0 := by omega
      have HY := Lib.hid hyp
      have d0 : decide (0 < n) = true := by simpa using h0
      clear hyp hn0
      go_wp2_with fail
      refine (divNat60 K _ _ x y wr hK hK3 sx sy HY.out hx hy').mono ?_
      rintro e w2 ⟨vq, vr, rfl, hq, hrr, hb2⟩
      have hbw := below_trans' hb hb.size hb2
      have hy2 := hy'.below hb2
      have hmod : x % y < y := Nat.mod_lt _ (by have := HY.out; omega)
      have hgcd : Nat.gcd (x % y) y = Nat.gcd b a := by rw [← Nat.gcd_rec, HG.out]
      have HM := Lib.hid hmod
      have HGC := Lib.hid hgcd
      clear hb2 hb hy hy' hq hmod hgcd
      go_wp2_with fail
      go_roundg (x % y)
      case measure => have := HR.out; have := HM.out; omega
      case rel => exact ⟨y, x % y, rfl, hy2, hrr, sy, sy.le (Nat.le_of_lt HM.out), HGC.out, hbw⟩
    · have d0 : decide (0 < n) = false := by simpa using h0
      have hy0 : y = 0 := by omega
      have e : x = Nat.gcd b a := by have := HG.out; rw [hy0, Nat.gcd_zero_left] at this; exact this
      rw [e] at hx
      clear hy0 e hn0
      go_wp2_with fail
      go_ret
      exact ⟨_, rfl, hx, hb⟩
end Go.Proofs.YtpligjkbnlfhgaaGreatDoor
