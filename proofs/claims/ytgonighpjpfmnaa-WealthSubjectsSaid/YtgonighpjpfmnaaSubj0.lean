/- The two wealths of a subject. Plain: no program is walked. -/
import Derived.Test.YtgonighpjpfmnaaUnb0
import Derived.Test.YtgonighpjpfmnaaThresh
namespace Go.Proofs.Ytgonighpjpfmnaa
open Go.RowKit

theorem subj_fair {X1 X2 U R c t y z b W : Int} {up : Bool} (h1 : vldS X1 U R = true) (h2 : vldS X2 U R = true) (hU : U = c * t * 250) (hl : c * X1 + t * X2 = c * t * (c + t) * (z - y)) (hc : 1 ≤ c) (ht : 1 ≤ t) (hy : 0 ≤ y ∧ y ≤ 250) (hz : 0 ≤ z ∧ z ≤ 250) (hb : 0 ≤ b ∧ b ≤ 4) (hW : 0 ≤ W) :
    facD X1 U R ((z - y) * 4) b = facD X2 U R ((z - y) * 4) b ∧ c * growI W (facN X1 U R ((z - y) * 4) b up) (facD X1 U R ((z - y) * 4) b) + t * growI W (facN X2 U R ((z - y) * 4) b up) (facD X2 U R ((z - y) * 4) b) ≤ (c + t) * W := by
  have k1 : facOk X1 U R ((z - y) * 4) b = true := by simp [facOk, h1]; omega
  have k2 : facOk X2 U R ((z - y) * 4) b = true := by simp [facOk, h2]; omega
  have f1 := fac_bd X1 U R ((z - y) * 4) b up
  have f2 := fac_bd X2 U R ((z - y) * 4) b up
  have d1 : facD X1 U R ((z - y) * 4) b = 8 * R * 1000 := by rw [facD, if_pos k1]
  have d2 : facD X2 U R ((z - y) * 4) b = 8 * R * 1000 := by rw [facD, if_pos k2]
  have n1 : facN X1 U R ((z - y) * 4) b up = if up = true then 8 * R * 1000 + gainI X1 U ((z - y) * 4) b else 8 * R * 1000 - gainI X1 U ((z - y) * 4) b := by rw [facN, if_pos k1]
  have n2 : facN X2 U R ((z - y) * 4) b up = if up = true then 8 * R * 1000 + gainI X2 U ((z - y) * 4) b else 8 * R * 1000 - gainI X2 U ((z - y) * 4) b := by rw [facN, if_pos k2]
  have hsum : c * gainI X1 U ((z - y) * 4) b + t * gainI X2 U ((z - y) * 4) b = 0 := by
    unfold gainI
    have e : c * (b * (X1 * 1000 - U * ((z - y) * 4))) + t * (b * (X2 * 1000 - U * ((z - y) * 4))) = b * (1000 * (c * X1 + t * X2) - (c + t) * U * ((z - y) * 4)) := by grind
    rw [e, hl, hU]
    grind
  have hNs : c * facN X1 U R ((z - y) * 4) b up + t * facN X2 U R ((z - y) * 4) b up = (c + t) * (8 * R * 1000) := by
    rw [n1, n2]
    split <;> grind
  rw [d1] at f1
  rw [d2] at f2
  refine ⟨by rw [d1, d2], ?_⟩
  rw [d1, d2]
  have hD : 1 ≤ 8 * R * 1000 := by omega
  generalize hA : facN X1 U R ((z - y) * 4) b up = N1 at *
  generalize hB : facN X2 U R ((z - y) * 4) b up = N2 at *
  generalize 8 * R * 1000 = D at *
  have g1 := growI_mul_le (w := W) (num := N1) (den := D) hW (by omega) hD
  have g2 := growI_mul_le (w := W) (num := N2) (den := D) hW (by omega) hD
  refine Int.le_of_mul_le_mul_right (a := D) ?_ (by omega)
  have e1 : c * (growI W N1 D * D) ≤ c * (W * N1) := Int.mul_le_mul_of_nonneg_left g1 (by omega)
  have e2 : t * (growI W N2 D * D) ≤ t * (W * N2) := Int.mul_le_mul_of_nonneg_left g2 (by omega)
  have e3 : (c * growI W N1 D + t * growI W N2 D) * D = c * (growI W N1 D * D) + t * (growI W N2 D * D) := by grind
  have e4 : (c + t) * W * D = c * (W * N1) + t * (W * N2) := by
    have : W * (c * N1 + t * N2) = W * ((c + t) * D) := by rw [hNs]
    grind
  omega
end Go.Proofs.Ytgonighpjpfmnaa
