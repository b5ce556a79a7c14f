/- Long numbers: the reference's greatest common divisor. -/
import Derived.Test.YtpligjkbnlfhgaaDoorNatL
namespace Go.Proofs.YtpligjkbnlfhgaaDoor
open Go.RowKit

theorem NatV.shape {B : Nat} {w : World} {v : Value} {x : Nat} (hB : 0 < B) (h : NatV B w v x) : ∃ A n c, v = .slice A n c ∧ n ≤ c ∧ c ≤ maxLen ∧ (n = 0 ↔ x = 0) := by
  obtain ⟨A, n, c, f, hv, hc, hm, hr, hd, hx⟩ := h
  exact ⟨A, n, c, hv, hc, hm, by rw [← hx]; exact (hd.zero hB).symm⟩

set_option maxRecDepth 100000 in
set_option maxHeartbeats 1000000 in
theorem divisor138 (K : Nat) (v1 v2 : Value) (a b : Nat) (w : World) (hK : K ≤ 500000) (s1 : Sm K a) (s2 : Sm K b) (h1 : NatV 4294967296 w v1 a) (h2 : NatV 4294967296 w v2 b) :
    Calls Tryd.prog 138 #[v1, v2] w fun e w' => ∃ v, e = .returned v ∧ NatV 4294967296 w' v (Nat.gcd a b) ∧ Below w.heap.size w w' := by
  go_enter Tryd.func138, Tryd.ntmps138
  go_wp2_with fail
  go_loopg [0, 1, 5, 6] a (fun r va vb _ _ wr => ∃ (x y : Nat), r = x ∧ NatV 4294967296 wr va x ∧ NatV 4294967296 wr vb y ∧ Sm K x ∧ Sm K y ∧ Nat.gcd x y = Nat.gcd a b ∧ Below w.heap.size w wr)
  case atStart => exact ⟨a, b, rfl, h1, h2, s1, s2, rfl, Below.refl _ _⟩
  case round =>
    obtain ⟨x, y, hr, hx, hy, sx, sy, hg, hb⟩ := hrel
    have HR := Lib.hid hr
    have HG := Lib.hid hg
    clear hr hg
    have hx' := hx
    obtain ⟨A, n, c, rfl, hnc, hcm, hn0⟩ := hx.shape (by omega)
    unfold maxLen at hcm
    by_cases h0 : 0 < n
    · have hxp : x ≠ 0 := by omega
      have HX := Lib.hid hxp
      have d0 : decide (0 < n) = true := by simpa using h0
      clear hxp hn0
      go_wp2_with fail
      refine (divide120 K _ _ y x wr hK sy sx HX.out hy hx').mono ?_
      rintro e w2 ⟨vq, vr, rfl, hq, hrr, hb2⟩
      have hbw := below_trans' hb hb.size hb2
      have hx2 := hx'.below hb2
      have hmod : y % x < x := Nat.mod_lt _ (by have := HX.out; omega)
      have hgcd : Nat.gcd (y % x) x = Nat.gcd a b := by rw [← Nat.gcd_rec, HG.out]
      have HM := Lib.hid hmod
      have HGC := Lib.hid hgcd
      clear hb2 hb hx hx' hq hmod hgcd
      go_wp2_with fail
      go_roundg (y % x)
      case measure => have := HR.out; have := HM.out; omega
      case rel => exact ⟨y % x, x, rfl, hrr, hx2, sx.le (Nat.le_of_lt HM.out), sx, HGC.out, hbw⟩
    · have d0 : decide (0 < n) = false := by simpa using h0
      have hx0 : x = 0 := by omega
      have e : y = Nat.gcd a b := by have := HG.out; rw [hx0, Nat.gcd_zero_left] at this; exact this
      rw [e] at hy
      clear hx0 e hn0
      go_wp2_with fail
      go_ret
      exact ⟨_, rfl, hy, hb⟩
end Go.Proofs.YtpligjkbnlfhgaaDoor
