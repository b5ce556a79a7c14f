/- Scores that are all equal: which effects are excluded. Plain: no program is walked. -/
import Derived.Test.YtgonighpjpfmnaaSeqLaw
namespace Go.Proofs.Ytgonighpjpfmnaa
open Go.RowKit Go.Maps

theorem grow_ge {w D g : Int} (hw : 0 ≤ w) (hw2 : w ≤ 2305843009213693952) (hD : 1 ≤ D) (hD2 : D ≤ 4611686018427387904) (hg0 : 0 ≤ g) (hg : D * 3 ≤ g * 40) : min 2305843009213693952 (w + w * 3 / 40) ≤ growI w (D + g) D := by
  rw [growI, if_neg (by omega)]
  have h : w + w * 3 / 40 ≤ w * (D + g) / D := by
    rw [Int.le_ediv_iff_mul_le (by omega)]
    have h1 : w * 3 / 40 * 40 ≤ w * 3 := Int.ediv_mul_le _ (by omega)
    have h2 : w * 3 / 40 * 40 * D ≤ w * 3 * D := Int.mul_le_mul_of_nonneg_right h1 (by omega)
    have h3 : w * (D * 3) ≤ w * (g * 40) := Int.mul_le_mul_of_nonneg_left hg hw
    have e1 : w * 3 / 40 * 40 * D = w * 3 / 40 * D * 40 := by rw [Int.mul_assoc, Int.mul_comm 40 D, ← Int.mul_assoc]
    have e2 : w * 3 * D = w * (D * 3) := by rw [Int.mul_assoc, Int.mul_comm 3 D]
    have e3 : w * (g * 40) = w * g * 40 := (Int.mul_assoc _ _ _).symm
    rw [Int.add_mul, Int.mul_add]
    omega
  omega

theorem grow_le {w D g : Int} (hw : 0 ≤ w) (hw2 : w ≤ 8589934592) (hD : 1 ≤ D) (hN : 0 ≤ D + g) (hg : g * 4000 ≤ D) : growI w (D + g) D ≤ w + 2147484 := by
  have h := growI_mul_le (w := w) (num := D + g) (den := D) hw hN hD
  refine Int.le_of_mul_le_mul_right (a := D) ?_ (by omega)
  have h3 : w * (g * 4000) ≤ w * D := Int.mul_le_mul_of_nonneg_left hg hw
  have h4 : w * D ≤ 8589936000 * D := Int.mul_le_mul_of_nonneg_right (by omega) (by omega)
  have e3 : w * (g * 4000) = w * g * 4000 := (Int.mul_assoc _ _ _).symm
  rw [Int.mul_add] at h
  rw [Int.add_mul]
  omega

def tS (num u : Int) : Scr := ⟨num, u, 2 * u⟩

theorem tS_vld {num u : Int} (hu : 1 ≤ u) (hu2 : u ≤ 10) (h1 : -u ≤ num) (h2 : num ≤ u) : vldS num u (2 * u) = true := by
  simp only [vldS, Bool.and_eq_true, decide_eq_true_eq]
  omega

theorem tS_step {num u e b : Int} (hu : 1 ≤ u) (hu2 : u ≤ 10) (h1 : -u ≤ num) (h2 : num ≤ u) (he1 : -1000 ≤ e) (he2 : e ≤ 1000) (hb : 0 ≤ b) (hb2 : b ≤ 4) (k : Nat) :
    wAt (fun _ => tS num u) e true b (k + 1) = growI (wAt (fun _ => tS num u) e true b k) (16000 * u + b * (num * 1000 - u * e)) (16000 * u) := by
  have hok : facOk num u (2 * u) e b = true := facOk_iff.2 (by omega)
  show growI (wAt (fun _ => tS num u) e true b k) (facN num u (2 * u) e b true) (facD num u (2 * u) e b) = _
  rw [facN, facD, if_pos hok, if_pos hok, if_pos rfl, show 8 * (2 * u) * 1000 = 16000 * u by omega]
  rfl

theorem tS_slow {num u e b : Int} (hu : 1 ≤ u) (hu2 : u ≤ 10) (h1 : -u ≤ num) (h2 : num ≤ u) (he1 : -1000 ≤ e) (he2 : e ≤ 1000) (hb : 0 ≤ b) (hb2 : b ≤ 4) (hG : num * 1000 - u * e ≤ u) : ∀ k : Nat, k ≤ 300 → wAt (fun _ => tS num u) e true b k ≤ 4294967296 + 2147484 * k
  | 0, _ => by simp [wAt]
  | k + 1, hk => by
    have ih := tS_slow hu hu2 h1 h2 he1 he2 hb hb2 hG k (by omega)
    have hw := wAt_bd (fun _ => tS num u) e true b k
    have hok : facOk num u (2 * u) e b = true := facOk_iff.2 (by omega)
    have hgb := gain_bd hok
    unfold gainI at hgb
    have hg4 : b * (num * 1000 - u * e) ≤ 4 * u := by
      have h3 : b * (num * 1000 - u * e) ≤ b * u := Int.mul_le_mul_of_nonneg_left hG hb
      have h4 : b * u ≤ 4 * u := Int.mul_le_mul_of_nonneg_right hb2 (by omega)
      omega
    rw [tS_step hu hu2 h1 h2 he1 he2 hb hb2 k]
    have := grow_le (w := wAt (fun _ => tS num u) e true b k) (D := 16000 * u) (g := b * (num * 1000 - u * e)) hw.1 (by omega) (by omega) (by omega) (by omega)
    omega

theorem tS_fast {num u e : Int} (hu : 1 ≤ u) (hu2 : u ≤ 10) (h1 : -u ≤ num) (h2 : num ≤ u) (he1 : -1000 ≤ e) (he2 : e ≤ 1000) (hG : 300 * u ≤ num * 1000 - u * e) (X : Int) (k : Nat) (hX : 4294967296 ≤ X) (hX2 : X ≤ 1099511627776) (hk : X ≤ wAt (fun _ => tS num u) e true 4 k) : ∀ i : Nat, i ≤ 14 → X + i * (X * 3 / 40) ≤ wAt (fun _ => tS num u) e true 4 (k + i)
  | 0, _ => by simpa using hk
  | i + 1, hi => by
    have ih := tS_fast hu hu2 h1 h2 he1 he2 hG X k hX hX2 hk i (by omega)
    have hw := wAt_bd (fun _ => tS num u) e true 4 (k + i)
    have e1 : wAt (fun _ => tS num u) e true 4 (k + (i + 1)) = _ := tS_step (b := 4) hu hu2 h1 h2 he1 he2 (by omega) (by omega) (k + i)
    rw [e1]
    have hg := grow_ge (w := wAt (fun _ => tS num u) e true 4 (k + i)) (D := 16000 * u) (g := 4 * (num * 1000 - u * e)) hw.1 hw.2 (by omega) (by omega) (by omega) (by omega)
    have hc0 : 0 ≤ X * 3 / 40 := by omega
    have hm0 : 0 ≤ (i : Int) * (X * 3 / 40) := Int.mul_nonneg (by omega) hc0
    have hm14 : (i : Int) * (X * 3 / 40) ≤ 13 * (X * 3 / 40) := Int.mul_le_mul_of_nonneg_right (by omega) hc0
    have e2 : ((i + 1 : Nat) : Int) * (X * 3 / 40) = (i : Int) * (X * 3 / 40) + X * 3 / 40 := by rw [Int.natCast_add, Int.add_mul]; simp
    rw [e2]
    omega

theorem tS_double {num u e : Int} (hu : 1 ≤ u) (hu2 : u ≤ 10) (h1 : -u ≤ num) (h2 : num ≤ u) (he1 : -1000 ≤ e) (he2 : e ≤ 1000) (hG : 300 * u ≤ num * 1000 - u * e) : ∀ j : Nat, j ≤ 8 → 4294967296 * 2 ^ j ≤ wAt (fun _ => tS num u) e true 4 (14 * j)
  | 0, _ => by simp [wAt]
  | j + 1, hj => by
    have ih := tS_double hu hu2 h1 h2 he1 he2 hG j (by omega)
    have hp : (2 : Int) ^ j ≤ 128 := by
      have : (2 : Nat) ^ j ≤ 2 ^ 7 := Nat.pow_le_pow_right (by omega) (by omega)
      have h3 : ((2 ^ j : Nat) : Int) ≤ ((2 ^ 7 : Nat) : Int) := by exact_mod_cast this
      simpa using h3
    have hp1 : (1 : Int) ≤ 2 ^ j := by have := Nat.one_le_two_pow (n := j); exact_mod_cast this
    have h := tS_fast hu hu2 h1 h2 he1 he2 hG (4294967296 * 2 ^ j) (14 * j) (by omega) (by omega) ih 14 (by omega)
    rw [show 14 * (j + 1) = 14 * j + 14 by omega, Int.pow_succ]
    omega

theorem thr_lo {n : Int} (h1 : 50 ≤ n) (h2 : n ≤ 949) : 9000000000 ≤ thrI n 2 ∧ thrI n 2 ≤ 171798691841 := by
  rw [thrI, if_neg (by omega)]
  constructor
  · rw [Int.le_ediv_iff_mul_le (by omega)]; omega
  · refine Int.le_of_lt_add_one (Int.ediv_lt_of_lt_mul (by omega) ?_)
    omega

theorem truth_low {num u n : Int} (hu : 1 ≤ u) (hu2 : u ≤ 10) (h1 : -u ≤ num) (h2 : num ≤ u) (hn : 50 ≤ n) (hn2 : n ≤ 949) : lowR (fun _ => tS num u) n 300 * u ≤ num * 1000 ∧ num * 1000 - 300 * u ≤ lowR (fun _ => tS num u) n 300 * u := by
  have hv : allV (fun _ => tS num u) 300 := fun _ _ => tS_vld hu hu2 h1 h2
  have hb := lowR_bd (fun _ => tS num u) n 300
  have ht := thr_lo hn hn2
  have hx := fun e (a : -1000 ≤ e) (b : e ≤ 1000) => lowR_iff (f := fun _ => tS num u) (level := n) (n := 300) (by omega) hv a b
  generalize lowR (fun _ => tS num u) n 300 = L at *
  constructor
  · refine Decidable.byContradiction fun hc => ?_
    have hL : -1000 < L := by
      refine Decidable.byContradiction fun h => ?_
      have : L = -1000 := by omega
      subst this
      omega
    have hex := (hx (L - 1) (by omega) (by omega)).2 (by omega)
    obtain ⟨i, hi, hm⟩ := exR_iff.1 hex
    have eu : u * (L - 1) = L * u - u := by rw [Int.mul_sub, Int.mul_comm]; omega
    have a1 := tS_slow (e := L - 1) (b := 1) hu hu2 h1 h2 (by omega) (by omega) (by omega) (by omega) (by omega) (i + 1) (by omega)
    have a2 := tS_slow (e := L - 1) (b := 2) hu hu2 h1 h2 (by omega) (by omega) (by omega) (by omega) (by omega) (i + 1) (by omega)
    have a4 := tS_slow (e := L - 1) (b := 4) hu hu2 h1 h2 (by omega) (by omega) (by omega) (by omega) (by omega) (i + 1) (by omega)
    unfold meanAt at hm
    omega
  · refine Decidable.byContradiction fun hc => ?_
    have hL : L ≤ 1000 := by
      refine Decidable.byContradiction fun h => ?_
      have : 1001 * u ≤ L * u := Int.mul_le_mul_of_nonneg_right (by omega) (by omega)
      omega
    have eu : u * L = L * u := Int.mul_comm _ _
    have hd := tS_double (e := L) hu hu2 h1 h2 (by omega) hL (by omega) 8 (by omega)
    have hno : ¬ exR (fun _ => tS num u) true (thrI n 2) 300 L = true := fun h => by have := (hx L (by omega) hL).1 h; omega
    refine hno (exR_iff.2 ⟨111, by omega, ?_⟩)
    have w1 := wAt_bd (fun _ => tS num u) L true 1 112
    have w2 := wAt_bd (fun _ => tS num u) L true 2 112
    change _ ≤ (wAt (fun _ => tS num u) L true 1 112 + wAt (fun _ => tS num u) L true 2 112 + wAt (fun _ => tS num u) L true 4 112) / 3
    have hd' : 1099511627776 ≤ wAt (fun _ => tS num u) L true 4 112 := by simpa using hd
    omega

theorem truth_high {num u n : Int} (hu : 1 ≤ u) (hu2 : u ≤ 10) (h1 : -u ≤ num) (h2 : num ≤ u) (hn : 50 ≤ n) (hn2 : n ≤ 949) : num * 1000 ≤ highR (fun _ => tS num u) n 300 * u ∧ highR (fun _ => tS num u) n 300 * u ≤ num * 1000 + 300 * u := by
  have h := truth_low (num := -num) hu hu2 (by omega) (by omega) hn hn2
  have e : lowR (fun _ => tS (-num) u) n 300 = -highR (fun _ => tS num u) n 300 := lowR_neg (fun _ => tS num u) n 300
  rw [e, Int.neg_mul] at h
  omega
end Go.Proofs.Ytgonighpjpfmnaa
