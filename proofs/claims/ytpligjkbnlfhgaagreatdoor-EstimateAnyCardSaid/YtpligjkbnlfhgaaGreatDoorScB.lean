/- The integers next to a multiple, the reference's. -/
import Derived.Test.YtpligjkbnlfhgaaGreatDoorLw
namespace Go.Proofs.YtpligjkbnlfhgaaGreatDoor
open Go.RowKit

theorem two_digits {f : Nat → Nat} {n x : Nat} (hd : Dig 4294967296 f n) (hv : nv 4294967296 f n = x) (hx : x ≤ 2305843009213693952) : x = ext f n 1 * 2 ^ 32 + ext f n 0 ∧ ext f n 0 < 4294967296 ∧ ext f n 1 ≤ 536870912 := by
  have hn : n ≤ 2 := len_le (by omega) hd (by rw [hv]; exact Nat.lt_of_le_of_lt hx (by decide))
  have h2 := nv_ext (B := 4294967296) (f := f) hn
  rw [hv] at h2
  have h3 : nv 4294967296 (ext f n) 2 = ext f n 0 + ext f n 1 * 4294967296 := by simp [nv]
  have h0 : ext f n 0 < 4294967296 := by
    by_cases h : 0 < n
    · rw [ext_lt h]; exact hd.1 0 h
    · rw [ext_ge (by omega)]; omega
  have e : (2 : Nat) ^ 32 = 4294967296 := by decide
  rw [e]
  omega

set_option maxRecDepth 100000 in
set_option maxHeartbeats 1000000 in
theorem fixed123 (s : Bool) (v : Value) (x : Nat) (w : World) (h : NatV 4294967296 w v x) :
    Calls Tryz.prog 92 #[.bool s, v] w fun e w' => e = .returned (.tuple #[.int .i64 (if 2305843009213693952 < x then 0 else if s = true then -(x : Int) else x), .bool (!decide (2305843009213693952 < x))]) ∧ Below w.heap.size w w' := by
  obtain ⟨R, hR⟩ : ∃ R : Int, (if 2305843009213693952 < x then 0 else if s = true then -(x : Int) else x) = R := ⟨_, rfl⟩
  obtain ⟨O, hO⟩ : ∃ O : Bool, (!decide (2305843009213693952 < x)) = O := ⟨_, rfl⟩
  rw [hR, hO]
  have HRR := Lib.hid hR
  have HOO := Lib.hid hO
  clear hR hO
  have hM : ∀ w, Calls Tryz.prog 91 #[.int .u64 2305843009213693952] w fun e w' => ∃ v, e = .returned v ∧ NatV 4294967296 w' v 2305843009213693952 ∧ Below w.heap.size w w' := fun w => natural122 2305843009213693952 w (by decide)
  have HM := Lib.hid hM
  clear hM
  go_enter Tryz.func92, Tryz.ntmps92
  go_wp2_with fail
  refine (HM.out w).mono ?_
  rintro e w1 ⟨vm, rfl, hvm, hb1⟩
  have hx1 := h.below hb1
  have hcm := compare119 4294967296 (by omega) _ _ x 2305843009213693952 w1 hx1 hvm
  have hcp := cmpI_pos (a := x) (b := 2305843009213693952)
  obtain ⟨qc, hqc⟩ : ∃ qc : Int, cmpI x 2305843009213693952 = qc := ⟨_, rfl⟩
  rw [hqc] at hcm hcp
  have HCP := Lib.hid hcp
  clear hqc hcp
  go_wp2_with fail
  refine hcm.mono ?_
  rintro e _ ⟨rfl, kk, rfl⟩
  have hbk : Below w1.heap.size w1 (w1.drewN kk) := below_drewN (Below.refl _ _) kk
  have hBe := below_trans' hb1 hb1.size hbk
  have hxk := hx1.below hbk
  clear hcm hbk hx1 hvm h hb1
  by_cases hgt : 2305843009213693952 < x
  · have dq : decide (0 < qc) = true := by rw [HCP.out, decide_eq_true hgt]
    have r1 : R = 0 := by rw [← HRR.out, if_pos hgt]
    have r2 : O = false := by rw [← HOO.out, decide_eq_true hgt]; rfl
    subst r1
    subst r2
    go_wp2_with fail
    exact bodyPost_ret (v := .tuple #[.int .i64 0, .bool false]) (by simp [results, Tryz.results92, go_sem]) rfl ⟨rfl, hBe⟩
  · have dq : decide (0 < qc) = false := by rw [HCP.out, decide_eq_false hgt]
    have r1 : R = if s = true then -(x : Int) else x := by rw [← HRR.out, if_neg hgt]
    have r2 : O = true := by rw [← HOO.out, decide_eq_false hgt]; rfl
    subst r2
    have HR1 := Lib.hid r1
    clear r1
    obtain ⟨A, n, c, f, rfl, hc, hm, hr, hd, hv⟩ := hxk
    obtain ⟨t1, t2, t3⟩ := two_digits hd hv (by omega)
    have d1 : Calls Tryz.prog 122 #[.slice A n c, .int .i64 1] (w1.drewN kk) fun e w' => e = .returned (.int .u64 (ext f n 1)) ∧ (w1.drewN kk) = w' := digit143 A n c 1 f _ (Nat.le_trans hc hm) hr hd.1 (by unfold maxLen; omega)
    have d0 : Calls Tryz.prog 122 #[.slice A n c, .int .i64 0] (w1.drewN kk) fun e w' => e = .returned (.int .u64 (ext f n 0)) ∧ (w1.drewN kk) = w' := digit143 A n c 0 f _ (Nat.le_trans hc hm) hr hd.1 (by unfold maxLen; omega)
    obtain ⟨Q, hQ⟩ := letter (ext f n 0)
    rw [← hQ] at d0
    go_wp2_with fail
    refine d1.mono ?_
    rintro e _ ⟨rfl, rfl⟩
    go_wp2_with fail
    refine d0.mono ?_
    rintro e _ ⟨rfl, rfl⟩
    have hor : bits .or .u64 (((ext f n 1 : Nat) : Int) * 4294967296) Q = (x : Int) := by
      have := bits_or_disj (x := ext f n 1) (c := ext f n 0) (e := 32) (by omega) (by omega)
      rw [← t1] at this
      rw [← this, hQ]
      congr 1
    have hXb : (x : Int) ≤ 2305843009213693952 := by omega
    have hPb : ((ext f n 1 : Nat) : Int) ≤ 536870912 := by omega
    clear d0 d1 hQ t1 t2 t3 hd hv hr hgt
    cases s with
    | false =>
      have hR2 : (x : Int) = R := by rw [HR1.out]; rfl
      have HR2 := Lib.hid hR2
      clear hR2
      go_wp2_with fail
      exact bodyPost_ret (v := .tuple #[.int .i64 x, .bool true]) (by simp [results, Tryz.results92, go_sem]) rfl ⟨by rw [HR2.out], hBe⟩
    | true =>
      have hR2 : -(x : Int) = R := by rw [HR1.out]; rfl
      have HR2 := Lib.hid hR2
      clear hR2
      go_wp2_with fail
      exact bodyPost_ret (v := .tuple #[.int .i64 (-(x : Int)), .bool true]) (by simp [results, Tryz.results92, go_sem]) rfl ⟨by rw [HR2.out], hBe⟩

/-- What the ends of a fraction are, in parts. -/
theorem scale_parts (x : Rat) (u : Nat) : scaleR x u = if 2305843009213693952 < (if x.num.natAbs * u % x.den = 0 then x.num.natAbs * u / x.den else x.num.natAbs * u / x.den + 1) then none else
    if x.num < 0 then some (-((if x.num.natAbs * u % x.den = 0 then x.num.natAbs * u / x.den else x.num.natAbs * u / x.den + 1 : Nat) : Int), -((x.num.natAbs * u / x.den : Nat) : Int)) else some (((x.num.natAbs * u / x.den : Nat) : Int), ((if x.num.natAbs * u % x.den = 0 then x.num.natAbs * u / x.den else x.num.natAbs * u / x.den + 1 : Nat) : Int)) := rfl
theorem scale_times (x : Rat) {u : Nat} (hu : 1 ≤ u) : scaleR (x * ratP false u 1) 1 = scaleR x u := by
  have e : x * ratP false u 1 = ratP (decide (x.num < 0) != false) (x.num.natAbs * u) (x.den * 1) := by rw [← ratP_mul, ratP_self]
  have eb : (decide (x.num < 0) != false) = decide (x.num < 0) := by cases decide (x.num < 0) <;> rfl
  rw [Nat.mul_one, eb] at e
  obtain ⟨h1, h2, h3⟩ := ratP_num (neg := decide (x.num < 0)) (n := x.num.natAbs * u) x.den_nz
  rw [← e] at h1 h2 h3
  have hg : 0 < Nat.gcd (x.num.natAbs * u) x.den := Nat.gcd_pos_of_pos_right _ (Nat.pos_of_ne_zero x.den_nz)
  obtain ⟨p, hp⟩ := Nat.gcd_dvd_left (x.num.natAbs * u) x.den
  obtain ⟨q, hq⟩ := Nat.gcd_dvd_right (x.num.natAbs * u) x.den
  have hs : (x * ratP false u 1).num < 0 ↔ x.num < 0 := by
    rw [← decide_eq_true_eq (p := (x * ratP false u 1).num < 0), h3, Bool.and_eq_true, decide_eq_true_eq, decide_eq_true_eq]
    refine ⟨fun h => h.1, fun h => ⟨h, ?_⟩⟩
    have : 0 < x.num.natAbs := by omega
    exact Nat.ne_of_gt (Nat.mul_pos this hu)
  rw [scale_parts, scale_parts, h1, h2, Nat.mul_one]
  generalize Nat.gcd (x.num.natAbs * u) x.den = g at *
  have e1 : x.num.natAbs * u / g = p := by rw [hp]; exact Nat.mul_div_cancel_left _ hg
  have e2 : x.den / g = q := by rw [hq]; exact Nat.mul_div_cancel_left _ hg
  have e3 : x.num.natAbs * u / x.den = p / q := by rw [hp, hq]; exact Nat.mul_div_mul_left _ _ hg
  have e4 : x.num.natAbs * u % x.den = g * (p % q) := by rw [hp, hq]; exact Nat.mul_mod_mul_left _ _ _
  have e5 : g * (p % q) = 0 ↔ p % q = 0 := by rw [Nat.mul_eq_zero]; omega
  have i1 : ∀ a b : Nat, (if g * (p % q) = 0 then a else b) = if p % q = 0 then a else b := fun a b => by
    by_cases h : p % q = 0
    · rw [if_pos h, if_pos (e5.2 h)]
    · rw [if_neg h, if_neg (fun h' => h (e5.1 h'))]
  have i2 : ∀ a b : Option (Int × Int), (if (x * ratP false u 1).num < 0 then a else b) = if x.num < 0 then a else b := fun a b => by
    by_cases h : x.num < 0
    · rw [if_pos h, if_pos (hs.2 h)]
    · rw [if_neg h, if_neg (fun h' => h (hs.1 h'))]
  rw [e1, e2, e3, e4, i1, i2]

set_option maxRecDepth 100000 in
set_option maxHeartbeats 4000000 in
theorem ends67 (K : Nat) (f : Value) (x : Rat) (w : World) (hK : K ≤ 400000) (hK3 : 30 ≤ K) (a : RS K x) (h : FrR w f x) :
    Calls Tryz.prog 51 #[f] w fun e w' => e = .returned (scV (scaleR x 1)) ∧ Below w.heap.size w w' := by
  obtain ⟨A1, l1, c1, A2, l2, c2, rfl, hp, hq, -⟩ := h.shape
  obtain ⟨a1, a2⟩ := a
  have hd0 := x.den_nz
  obtain ⟨R, hR⟩ : ∃ R, scaleR x 1 = R := ⟨_, rfl⟩
  rw [hR]
  have hR1 := scale_parts x 1
  rw [hR, Nat.mul_one] at hR1
  have hsI : ∀ a b : Option (Int × Int), (if x.num < 0 then a else b) = if decide (x.num < 0) = true then a else b := fun a b => by
    by_cases h : x.num < 0
    · rw [if_pos h, if_pos (decide_eq_true h)]
    · rw [if_neg h, if_neg (by rw [decide_eq_false h]; simp)]
  rw [hsI] at hR1
  generalize decide (x.num < 0) = s at *
  generalize x.num.natAbs = n at *
  generalize x.den = d at *
  have HR := Lib.hid hR1
  have g0 := heap_alloc_new w (.cells #[.bool s, .slice A1 l1 c1, .slice A2 l2 c2] 57)
  have hbW : Below w.heap.size w (w.alloc (.cells #[.bool s, .slice A1 l1 c1, .slice A2 l2 c2] 57)) := (Below.refl _ _).alloc (Nat.le_refl _) _
  have k0 := cells3 g0
  clear hR hR1 hsI h
  go_enter Tryz.func51, Tryz.ntmps51
  go_wp2_with fail
  generalize w.alloc (.cells #[.bool s, .slice A1 l1 c1, .slice A2 l2 c2] 57) = W at *
  refine (divide120 K _ _ n d W (by omega) a1 a2 hd0 (hp.below hbW) (hq.below hbW)).mono ?_
  rintro e w1 ⟨vq, vr, rfl, hvq, hvr, hb1⟩
  obtain ⟨Ar, lr, cr, rfl, hcr, hmr, hzr⟩ := hvr.shape (by omega)
  unfold maxLen at hmr
  have k1 := cells3 (blk_below hb1 g0)
  have sq : Sm K (n / d) := a1.le (Nat.div_le_self _ _)
  clear k0 hp hq hvr
  by_cases h0 : lr = 0
  · have hm := hzr.1 h0
    have hR3 : R = if 2305843009213693952 < n / d then none else if s = true then some (-((n / d : Nat) : Int), -((n / d : Nat) : Int)) else some (((n / d : Nat) : Int), ((n / d : Nat) : Int)) := by
      rw [HR.out]; simp only [hm, if_true]
    have HR3 := Lib.hid hR3
    clear hR3 hm hzr HR
    subst h0
    generalize n / d = Q at *
    go_wp2_with fail
    have k3 := cells3 (blk_below hb1 g0)
    refine (fixed123 s _ Q w1 hvq).mono ?_
    rintro e w4 ⟨rfl, hb4⟩
    have hB4 := below_trans' hb1 hb1.size hb4
    have k4 := cells3 (blk_below hB4 g0)
    have hfx := fixed123 s _ Q w4 (hvq.below hb4)
    by_cases hgt : 2305843009213693952 < Q
    · have hR0 : R = none := by rw [HR3.out, if_pos hgt]
      subst hR0
      rw [if_pos hgt, decide_eq_true hgt] at hfx
      obtain ⟨r1, hr1⟩ : ∃ r1 : Int, (if 2305843009213693952 < Q then 0 else if s = true then -(Q : Int) else Q) = r1 := ⟨_, rfl⟩
      obtain ⟨o1, ho1⟩ : ∃ o1 : Bool, (!decide (2305843009213693952 < Q)) = o1 := ⟨_, rfl⟩
      rw [hr1, ho1]
      clear hr1 ho1 hgt
      go_wp2_with fail
      refine hfx.mono ?_
      rintro e w5 ⟨rfl, hb5⟩
      have hbe := below_trans' (below_trans' hbW hbW.size hB4) (below_trans' hbW hbW.size hB4).size hb5
      clear hfx k3 k4
      cases o1
      all_goals
        go_wp2_with fail
        exact bodyPost_ret (v := .tuple #[.int .i64 0, .int .i64 0, .bool false]) (by simp [results, Tryz.results51, go_sem]) rfl ⟨rfl, hbe⟩
    · have hgq : ¬ 2305843009213693952 < Q := by omega
      have HR4 := Lib.hid (HR3.out.trans (if_neg hgt))
      rw [if_neg hgt, decide_eq_false hgt] at hfx
      rw [if_neg hgq, decide_eq_false hgq]
      have y1 : ((Q : Nat) : Int) ≤ 2305843009213693952 := by omega
      have y2 : ((Q : Nat) : Int) ≤ ((Q : Nat) : Int) := by omega
      cases s with
      | false =>
        have m1 : min ((Q : Nat) : Int) ((Q : Nat) : Int) = ((Q : Nat) : Int) := by omega
        have m2 : max ((Q : Nat) : Int) ((Q : Nat) : Int) = ((Q : Nat) : Int) := by omega
        simp only [Bool.false_eq_true, if_false, Bool.not_false] at hfx ⊢
        go_wp2_with fail
        refine hfx.mono ?_
        rintro e w5 ⟨rfl, hb5⟩
        have hbe := below_trans' (below_trans' hbW hbW.size hB4) (below_trans' hbW hbW.size hB4).size hb5
        clear hfx k3 k4
        go_wp2_with fail
        exact bodyPost_ret (v := .tuple #[.int .i64 ((Q : Nat) : Int), .int .i64 ((Q : Nat) : Int), .bool true]) (by simp [results, Tryz.results51, go_sem]) rfl ⟨by rw [HR4.out]; rfl, hbe⟩
      | true =>
        have m1 : min (-((Q : Nat) : Int)) (-((Q : Nat) : Int)) = -((Q : Nat) : Int) := by omega
        have m2 : max (-((Q : Nat) : Int)) (-((Q : Nat) : Int)) = -((Q : Nat) : Int) := by omega
        simp only [if_true, Bool.not_false] at hfx ⊢
        go_wp2_with fail
        refine hfx.mono ?_
        rintro e w5 ⟨rfl, hb5⟩
        have hbe := below_trans' (below_trans' hbW hbW.size hB4) (below_trans' hbW hbW.size hB4).size hb5
        clear hfx k3 k4
        go_wp2_with fail
        exact bodyPost_ret (v := .tuple #[.int .i64 (-((Q : Nat) : Int)), .int .i64 (-((Q : Nat) : Int)), .bool true]) (by simp [results, Tryz.results51, go_sem]) rfl ⟨by rw [HR4.out]; rfl, hbe⟩
  · have hm : ¬ n % d = 0 := fun h => h0 (hzr.2 h)
    have hR3 : R = if 2305843009213693952 < n / d + 1 then none else if s = true then some (-((n / d + 1 : Nat) : Int), -((n / d : Nat) : Int)) else some (((n / d : Nat) : Int), ((n / d + 1 : Nat) : Int)) := by
      rw [HR.out]; simp only [hm, if_false]
    have HR3 := Lib.hid hR3
    have dl : decide (0 < lr) = true := by simp; omega
    have h1s : Sm K 1 := Nat.lt_of_lt_of_le (show 1 < 2 ^ 1 by decide) (Nat.pow_le_pow_right (by omega) (by omega))
    have hone : ∀ w, Calls Tryz.prog 91 #[.int .u64 1] w fun e w' => ∃ v, e = .returned v ∧ NatV 4294967296 w' v 1 ∧ Below w.heap.size w w' := fun w => natural122 1 w (by decide)
    have HONE := Lib.hid hone
    clear hR3 hm hzr HR hone
    generalize n / d = Q at *
    go_wp2_with fail
    refine (HONE.out _).mono ?_
    rintro e w2 ⟨v1, rfl, hv1, hb2⟩
    go_wp2_with fail
    refine (plus121 K _ _ Q 1 w2 (by omega) sq h1s (hvq.below hb2) hv1).mono ?_
    rintro e w3 ⟨vu, rfl, hvu, hb3⟩
    have hB3 := below_trans' (below_trans' hb1 hb1.size hb2) (below_trans' hb1 hb1.size hb2).size hb3
    have hvq3 := (hvq.below hb2).below hb3
    obtain ⟨UP, hUP⟩ : ∃ UP, Q + 1 = UP := ⟨_, rfl⟩
    rw [hUP] at hvu HR3
    have hQU : Q ≤ UP := by omega
    have k5 := cells3 (blk_below hB3 g0)
    clear hUP k1 h0
    go_wp2_with fail
    have k3 := cells3 (blk_below hB3 g0)
    refine (fixed123 s _ Q w3 hvq3).mono ?_
    rintro e w4 ⟨rfl, hb4⟩
    have hB4 := below_trans' hB3 hB3.size hb4
    have k4 := cells3 (blk_below hB4 g0)
    have hfx := fixed123 s _ UP w4 (hvu.below hb4)
    by_cases hgt : 2305843009213693952 < UP
    · have hR0 : R = none := by rw [HR3.out, if_pos hgt]
      subst hR0
      rw [if_pos hgt, decide_eq_true hgt] at hfx
      obtain ⟨r1, hr1⟩ : ∃ r1 : Int, (if 2305843009213693952 < Q then 0 else if s = true then -(Q : Int) else Q) = r1 := ⟨_, rfl⟩
      obtain ⟨o1, ho1⟩ : ∃ o1 : Bool, (!decide (2305843009213693952 < Q)) = o1 := ⟨_, rfl⟩
      rw [hr1, ho1]
      clear hr1 ho1 hgt
      go_wp2_with fail
      refine hfx.mono ?_
      rintro e w5 ⟨rfl, hb5⟩
      have hbe := below_trans' (below_trans' hbW hbW.size hB4) (below_trans' hbW hbW.size hB4).size hb5
      clear hfx k3 k4
      cases o1
      all_goals
        go_wp2_with fail
        exact bodyPost_ret (v := .tuple #[.int .i64 0, .int .i64 0, .bool false]) (by simp [results, Tryz.results51, go_sem]) rfl ⟨rfl, hbe⟩
    · have hgq : ¬ 2305843009213693952 < Q := by omega
      have HR4 := Lib.hid (HR3.out.trans (if_neg hgt))
      rw [if_neg hgt, decide_eq_false hgt] at hfx
      rw [if_neg hgq, decide_eq_false hgq]
      have y1 : ((UP : Nat) : Int) ≤ 2305843009213693952 := by omega
      have y2 : ((Q : Nat) : Int) ≤ ((UP : Nat) : Int) := by omega
      cases s with
      | false =>
        have m1 : min ((Q : Nat) : Int) ((UP : Nat) : Int) = ((Q : Nat) : Int) := by omega
        have m2 : max ((Q : Nat) : Int) ((UP : Nat) : Int) = ((UP : Nat) : Int) := by omega
        simp only [Bool.false_eq_true, if_false, Bool.not_false] at hfx ⊢
        go_wp2_with fail
        refine hfx.mono ?_
        rintro e w5 ⟨rfl, hb5⟩
        have hbe := below_trans' (below_trans' hbW hbW.size hB4) (below_trans' hbW hbW.size hB4).size hb5
        clear hfx k3 k4
        go_wp2_with fail
        exact bodyPost_ret (v := .tuple #[.int .i64 ((Q : Nat) : Int), .int .i64 ((UP : Nat) : Int), .bool true]) (by simp [results, Tryz.results51, go_sem]) rfl ⟨by rw [HR4.out]; rfl, hbe⟩
      | true =>
        have m1 : min (-((Q : Nat) : Int)) (-((UP : Nat) : Int)) = -((UP : Nat) : Int) := by omega
        have m2 : max (-((Q : Nat) : Int)) (-((UP : Nat) : Int)) = -((Q : Nat) : Int) := by omega
        simp only [if_true, Bool.not_false] at hfx ⊢
        go_wp2_with fail
        refine hfx.mono ?_
        rintro e w5 ⟨rfl, hb5⟩
        have hbe := below_trans' (below_trans' hbW hbW.size hB4) (below_trans' hbW hbW.size hB4).size hb5
        clear hfx k3 k4
        go_wp2_with fail
        exact bodyPost_ret (v := .tuple #[.int .i64 (-((UP : Nat) : Int)), .int .i64 (-((Q : Nat) : Int)), .bool true]) (by simp [results, Tryz.results51, go_sem]) rfl ⟨by rw [HR4.out]; rfl, hbe⟩

set_option maxRecDepth 100000 in
set_option maxHeartbeats 8000000 in
theorem scale20 (N D : ByteArray) (u : Int) (w : World) (hN : N.size ≤ maxLen) (hD : D.size ≤ maxLen) (hu1 : -9223372036854775808 ≤ u) (hu2 : u ≤ 9223372036854775807) :
    Calls Tryz.prog 14 #[.agg #[.string N, .string D], .int .i64 u] w fun e w' => e = .returned (scV (scaleT (N.data.toList, D.data.toList) u)) ∧ Below w.heap.size w w' := by
  obtain ⟨R, hR⟩ : ∃ R, scaleT (N.data.toList, D.data.toList) u = R := ⟨_, rfl⟩
  rw [hR]
  have HR := Lib.hid hR
  have g0 := heap_alloc_new w (.cells #[.string N, .string D] 26)
  have hbW : Below w.heap.size w (w.alloc (.cells #[.string N, .string D] 26)) := (Below.refl _ _).alloc (Nat.le_refl _) _
  have k0 := cells2 g0
  clear hR
  go_enter Tryz.func14, Tryz.ntmps14
  go_wp2_with fail
  generalize w.alloc (.cells #[.string N, .string D] 26) = W at *
  refine (read66 N D W hN hD).mono ?_
  rintro e w1 ⟨b, A1, n1, c1, A2, n2, c2, rfl, hx, hb1⟩
  obtain ⟨o, ho⟩ : ∃ o, (rdR (N.data.toList, D.data.toList)).isSome = o := ⟨_, rfl⟩
  rw [ho]
  have HO := Lib.hid ho
  have hba : Below w1.heap.size w1 (w1.alloc (.cells #[.bool b, .slice A1 n1 c1, .slice A2 n2 c2] 57)) := (Below.refl _ _).alloc (Nat.le_refl _) _
  have h5 := heap_alloc_new w1 (.cells #[.bool b, .slice A1 n1 c1, .slice A2 n2 c2] 57)
  have hB1 := below_trans' hb1 hb1.size hba
  have hB0 := below_trans' hbW hbW.size hB1
  have HX := Lib.hid hx
  clear k0 ho hx
  cases o with
  | false =>
    have hR0 : R = none := by
      rw [← HR.out]; unfold scaleT
      have := HO.out
      cases e : rdR (N.data.toList, D.data.toList) with
      | none => rfl
      | some x => rw [e] at this; cases this
    subst hR0
    go_wp2_with fail
    exact bodyPost_ret (v := .tuple #[.int .i64 0, .int .i64 0, .bool false]) (by simp [results, Tryz.results14, go_sem]) rfl ⟨rfl, hB0⟩
  | true =>
    obtain ⟨x, hxr⟩ : ∃ x, rdR (N.data.toList, D.data.toList) = some x := by
      have := HO.out
      cases e : rdR (N.data.toList, D.data.toList) with
      | none => rw [e] at this; cases this
      | some x => exact ⟨x, rfl⟩
    by_cases hu : u < 1
    · have hR0 : R = none := by rw [← HR.out]; unfold scaleT; rw [hxr]; exact if_pos hu
      subst hR0
      clear hxr
      go_wp2_with fail
      exact bodyPost_ret (v := .tuple #[.int .i64 0, .int .i64 0, .bool false]) (by simp [results, Tryz.results14, go_sem]) rfl ⟨rfl, hB0⟩
    · have fx := (HX.out x hxr).below hba
      have rx := rd_RS hxr
      have hq : ratP (decide (u < 0) != decide ((1 : Int) < 0)) u.natAbs (1 : Int).natAbs = ratP false u.toNat 1 := by
        have e1 : decide (u < 0) = false := decide_eq_false (by omega)
        rw [e1, show (decide ((1 : Int) < 0)) = false by decide, show u.natAbs = u.toNat by omega]; rfl
      have hR2 : scaleR (x * ratP false u.toNat 1) 1 = R := by
        rw [scale_times x (by omega), ← HR.out]
        unfold scaleT
        rw [hxr]
        exact (if_neg hu).symm
      have HR2 := Lib.hid hR2
      have hmk := fun w => make69 u 1 w hu1 hu2 (by decide) (by decide) (by decide)
      rw [hq] at hmk
      have HMK := Lib.hid hmk
      have ru : RS KD (ratP false u.toNat 1) := by
        have h1 : u.toNat < 2 ^ KD := Nat.lt_of_lt_of_le (show u.toNat < 2 ^ 64 by omega) (Nat.pow_le_pow_right (by omega) (by decide))
        have h2 : 1 < 2 ^ KD := Nat.lt_of_lt_of_le (show 1 < 2 ^ 1 by decide) (Nat.pow_le_pow_right (by omega) (by decide))
        exact RS.bd (bd_ratP (by decide)) h1 h2
      generalize ratP false u.toNat 1 = y at *
      have rxy := rx.mul ru
      obtain ⟨z, hz⟩ : ∃ z, x * y = z := ⟨_, rfl⟩
      rw [hz] at HR2 rxy
      have HZ := Lib.hid hz
      have q0 := cells3 h5
      clear hxr hq hR2 hmk hz
      obtain ⟨lo, hi, ok, hAB⟩ : ∃ lo hi ok, scV R = .tuple #[.int .i64 lo, .int .i64 hi, .bool ok] := by
        cases R with
        | none => exact ⟨_, _, _, rfl⟩
        | some r => exact ⟨_, _, _, rfl⟩
      have HAB := Lib.hid hAB
      clear hAB
      generalize hW8 : w1.alloc (.cells #[.bool b, .slice A1 n1 c1, .slice A2 n2 c2] 57) = w8 at *
      have HW8 := Lib.hid hW8
      clear hW8
      go_upto_region 4 with fail
      rw [HW8.out]
      have hbd : Below w8.heap.size w8 w8.drew := (Below.refl _ _).drew
      have k1 := cells3 (blk_below hbd h5)
      have fxd := fx.below hbd
      go_region_held3 (fun w' => w'.cell? ⟨w1.heap.size, 0, none⟩ = some (.bool b) ∧ w'.cell? ⟨w1.heap.size, 1, none⟩ = some (.slice A1 n1 c1) ∧ w'.cell? ⟨w1.heap.size, 2, none⟩ = some (.slice A2 n2 c2))
        (first | with_reducible exact k1 | with_reducible exact k2 | with_reducible exact k3 | with_reducible exact k4)
        (first
          | (go_at_call 53; (with_reducible refine (HMK.out _).mono ?_); rintro e w2 ⟨f2, rfl, hf2, hb2⟩; have hB2 := below_trans' hbd hbd.size hb2; have k2 := cells3 (blk_below hB2 h5); have fx2 := fxd.below hb2)
          | (go_at_call 52; (with_reducible refine (times68 KD _ _ x y _ (by decide) rx ru fx2 hf2).mono ?_); rintro e w3 ⟨f3, rfl, hf3, hb3⟩; rw [HZ.out] at hf3; have hB3 := below_trans' hB2 hB2.size hb3; have k3 := cells3 (blk_below hB3 h5))
          | (go_at_call 51; (with_reducible refine (ends67 (KD + KD + 2) _ z _ (by decide) (by decide) rxy hf3).mono ?_); rintro e w4 ⟨rfl, hb4⟩; rw [HR2.out]; have hB4 := below_trans' hB3 hB3.size hb4; have k4 := cells3 (blk_below hB4 h5); rw [HAB.out]))
      all_goals
        have hbe := below_trans' hB0 hB0.size hB4
        clear k1 k2 k3 k4
        go_wp2_with fail
        exact bodyPost_ret (v := .tuple #[.int .i64 lo, .int .i64 hi, .bool ok]) (by simp [results, Tryz.results14, go_sem]) rfl ⟨by rw [HAB.out], hbe⟩
end Go.Proofs.YtpligjkbnlfhgaaGreatDoor
