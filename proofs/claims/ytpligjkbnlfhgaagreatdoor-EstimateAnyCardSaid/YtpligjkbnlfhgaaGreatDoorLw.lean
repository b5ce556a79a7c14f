/- The program's comparisons and multiples; texts of fractions as the laws of chapter 36 use them; the sanity check. No statement is proved here. -/
import Derived.Test.YtpligjkbnlfhgaaGreatDoorFrG
namespace Go.Proofs.YtpligjkbnlfhgaaGreatDoor
open Go.RowKit

theorem sgn_parts {s : Bool} {n d : Nat} (hd : d ≠ 0) : sgnR (ratP s n d) = if n = 0 then 0 else if s = true then -1 else 1 := by
  obtain ⟨_, _, h3⟩ := ratP_num (neg := s) (n := n) hd
  have h0 : (ratP s n d).num = 0 ↔ n = 0 := Rat.num_eq_zero.trans (ratP_zero (s := s) (n := n) hd)
  unfold sgnR
  by_cases hn : n = 0
  · rw [if_pos (h0.2 hn), if_pos hn]
  · rw [if_neg (fun h => hn (h0.1 h)), if_neg hn]
    cases s
    · rw [if_neg (by simpa using h3), if_neg (by simp)]
    · rw [if_pos (by simpa [hn] using h3), if_pos rfl]

theorem top_dig {B : Nat} {f : Nat → Nat} {n t : Nat} (hf : ∀ i, i < n → f i < B) (ht : t < n) : nv B f n / B ^ t = nv B f n / B ^ (t + 1) * B + f t := by
  have hp : 0 < B := by have := hf t ht; omega
  have key : ∀ k, k ≤ n → nv B f n / B ^ k = nv B (fun i => f (k + i)) (n - k) := fun k hk => by
    have := nv_split (B := B) (f := f) (k := k) (n := n - k)
    rw [show k + (n - k) = n by omega] at this
    rw [this, Nat.add_mul_div_left _ _ (Nat.pow_pos hp), Nat.div_eq_of_lt (nv_lt fun i hi => hf i (by omega)), Nat.zero_add]
  rw [key t (by omega), key (t + 1) ht]
  have := nv_split (B := B) (f := fun i => f (t + i)) (k := 1) (n := n - (t + 1))
  rw [show 1 + (n - (t + 1)) = n - t by omega] at this
  rw [this, Nat.pow_one]
  have e1 : nv B (fun i => f (t + i)) 1 = f t := by simp [nv]
  have e2 : nv B (fun i => (fun i => f (t + i)) (1 + i)) (n - (t + 1)) = nv B (fun i => f (t + 1 + i)) (n - (t + 1)) := nv_congr fun i _ => by show f (t + (1 + i)) = f (t + 1 + i); rw [Nat.add_assoc]
  rw [e1, e2, Nat.mul_comm B]; omega

set_option maxRecDepth 100000 in
set_option maxHeartbeats 1000000 in
theorem num65 (v : Value) (x : Nat) (w : World) (hx : x ≤ 2305843009213693952) (h : NatV 1000000000 w v x) :
    Calls Tryz.prog 113 #[v] w fun e w' => e = .returned (.int .i64 x) ∧ w = w' := by
  obtain ⟨A, n, c, f, rfl, hc, hm, hr, hd, hv⟩ := h
  have hn3 : n ≤ 3 := len_le (by omega) hd (by rw [hv]; exact Nat.lt_of_le_of_lt hx (by decide))
  have HD := Lib.hid hd.1
  have HV := Lib.hid hv
  clear hd hv hm hc
  go_enter Tryz.func113, Tryz.ntmps113
  go_wp2_with fail
  go_loopg [3, 4] n (fun r xx ii wr => ∃ (t : Nat) (X : Int), t ≤ n ∧ r = t ∧ ii = .int .i64 ((t : Int) - 1) ∧ xx = .int .i64 X ∧ X = ((x / 1000000000 ^ t : Nat) : Int) ∧ w = wr)
  case atStart => exact ⟨n, 0, Nat.le_refl _, rfl, by go_num, rfl, by rw [Nat.div_eq_of_lt (by rw [← HV.out]; exact nv_lt HD.out)]; rfl, rfl⟩
  case round =>
    obtain ⟨t, X, ht, hr', rfl, rfl, hX, rfl⟩ := hrel
    have HX := Lib.hid hX
    have HR := Lib.hid hr'
    clear hX hr'
    cases t with
    | zero =>
      have hX : (x : Int) = X := by have := HX.out; rw [Nat.pow_zero, Nat.div_one] at this; omega
      have HXX := Lib.hid hX
      clear hX
      go_wp2_with fail
      go_ret
      exact ⟨ret_int HXX.out.symm, rfl⟩
    | succ t =>
      have hstep := top_dig (B := 1000000000) HD.out (t := t) (by omega)
      rw [HV.out] at hstep
      have hft := HD.out t (by omega)
      have hq : x / 1000000000 ^ t ≤ x := Nat.div_le_self _ _
      obtain ⟨b, off, rfl, hb, hcell⟩ := hr (by omega)
      have x0 := hcell t (by omega)
      unfold u32V at x0
      obtain ⟨Y, hY⟩ := letter (f t)
      rw [← hY] at x0
      have hXn : X * 1000000000 + Y = ((x / 1000000000 ^ t : Nat) : Int) := by rw [hstep, hY]; have := HX.out; omega
      have hYb : 0 ≤ Y ∧ Y < 1000000000 := by omega
      have hXb : 0 ≤ X ∧ X * 1000000000 ≤ 2305843009213693952 := by have := HX.out; omega
      have ei : ((t + 1 : Nat) : Int) - 1 = (t : Int) := by omega
      rw [ei]
      have HXN := Lib.hid hXn
      clear hXn hstep hq hcell hY hft hr ei
      go_wp2_with fail
      go_roundg t
      case measure => have := HR.out; omega
      case rel => exact ⟨t, X * 1000000000 + Y, by omega, rfl, rfl, rfl, HXN.out, rfl⟩

/-- The answer of Scale. -/
def scV (t : Option (Int × Int)) : Value := match t with
  | some (a, b) => .tuple #[.int .i64 a, .int .i64 b, .bool true]
  | none => .tuple #[.int .i64 0, .int .i64 0, .bool false]
theorem cmpI_pos {a b : Nat} : decide (0 < cmpI a b) = decide (b < a) := by
  rcases Nat.lt_trichotomy a b with h | h | h
  · rw [cmpI_lt h, decide_eq_false (show ¬ b < a by omega)]; rfl
  · rw [cmpI_eq h, decide_eq_false (show ¬ b < a by omega)]; rfl
  · rw [cmpI_gt h, decide_eq_true h]; rfl

set_option maxRecDepth 100000 in
set_option maxHeartbeats 8000000 in
theorem scale19 (N D : ByteArray) (u : Int) (w : World) (hN : N.size ≤ maxLen) (hD : D.size ≤ maxLen) (hu1 : -9223372036854775808 ≤ u) (hu2 : u ≤ 9223372036854775807) :
    Calls Tryz.prog 74 #[.agg #[.string N, .string D], .int .i64 u] w fun e w' => e = .returned (scV (scaleT (N.data.toList, D.data.toList) u)) ∧ Below w.heap.size w w' := by
  obtain ⟨R, hR⟩ : ∃ R, scaleT (N.data.toList, D.data.toList) u = R := ⟨_, rfl⟩
  rw [hR]
  have HR := Lib.hid hR
  have g0 := heap_alloc_new w (.cells #[.string N, .string D] 26)
  have hbW : Below w.heap.size w (w.alloc (.cells #[.string N, .string D] 26)) := (Below.refl _ _).alloc (Nat.le_refl _) _
  have k0 := cells2 g0
  clear hR
  go_enter Tryz.func74, Tryz.ntmps74
  go_wp2_with fail
  generalize w.alloc (.cells #[.string N, .string D] 26) = W at *
  refine (read59r N D W hN hD).mono ?_
  rintro e w1 ⟨A1, l1, c1, A2, l2, c2, s, n, d, o, rfl, hf, hv, hx, hb1⟩
  have hba : Below w1.heap.size w1 (w1.alloc (.cells #[.bool s, .slice A1 l1 c1, .slice A2 l2 c2] 116)) := (Below.refl _ _).alloc (Nat.le_refl _) _
  have h5 := heap_alloc_new w1 (.cells #[.bool s, .slice A1 l1 c1, .slice A2 l2 c2] 116)
  have hB1 := below_trans' hb1 hb1.size hba
  have hf' := hf.below hba
  have hB0 := below_trans' hbW hbW.size hB1
  clear k0 hf
  cases o with
  | false =>
    have hR0 : R = none := by rw [← HR.out]; unfold scaleT; rw [hx rfl]
    subst hR0
    clear hx hv
    go_wp2_with fail
    exact bodyPost_ret (v := .tuple #[.int .i64 0, .int .i64 0, .bool false]) (by simp [results, Tryz.results74, go_sem]) rfl ⟨rfl, hB0⟩
  | true =>
    obtain ⟨e1, e2, e3, e4, e5, e6, e7⟩ := hv rfl
    clear hx hv
    by_cases hu : u < 1
    · have hR0 : R = none := by rw [← HR.out]; unfold scaleT; rw [e4]; exact if_pos hu
      subst hR0
      clear e4 e5 e6 e7
      go_wp2_with fail
      exact bodyPost_ret (v := .tuple #[.int .i64 0, .int .i64 0, .bool false]) (by simp [results, Tryz.results74, go_sem]) rfl ⟨rfl, hB0⟩
    · obtain ⟨U, hU⟩ : ∃ U : Nat, u.toNat = U := ⟨_, rfl⟩
      have huU : u = (U : Int) := by omega
      have hR1 : R = scaleR (ratP s n d) U := by rw [← HR.out]; unfold scaleT; rw [e4, ← hU]; exact if_neg hu
      have hR2 : R = if 2305843009213693952 < (if n * U % d = 0 then n * U / d else n * U / d + 1) then none else
          if s = true then some (-((if n * U % d = 0 then n * U / d else n * U / d + 1 : Nat) : Int), -((n * U / d : Nat) : Int)) else some (((n * U / d : Nat) : Int), ((if n * U % d = 0 then n * U / d else n * U / d + 1 : Nat) : Int)) := by
        rw [hR1]
        unfold scaleR
        have e8 : ((ratP s n d).num < 0) ↔ s = true := ⟨fun h => by rw [decide_eq_true h] at e7; exact e7.symm, fun h => by subst h; exact of_decide_eq_true e7⟩
        simp only [e5, e6, e8]
      have HR2 := Lib.hid hR2
      have hUs : Sm (KD + 64) U := Nat.lt_of_lt_of_le (show U < 2 ^ 64 by omega) (Nat.pow_le_pow_right (by omega) (by omega))
      have hns : Sm (KD + 64) n := e2.mono (by omega)
      have hds : Sm (KD + (KD + 64) + 1) d := e3.mono (by omega)
      have hps : Sm (KD + (KD + 64) + 1) (n * U) := (e2.mul hUs).mono (by omega)
      have hnat := fun w => natOf62 U w (by omega)
      rw [← huU] at hnat
      have ew : IntKind.u64.wrap u = u := IntWalk.u64_in _ (by omega)
      have hnat2 := hnat
      rw [← ew] at hnat2
      have HNAT := Lib.hid hnat
      have HNAT2 := Lib.hid hnat2
      obtain ⟨vn, vd, hh, z1, z2⟩ := hf'
      simp only [Value.agg.injEq, Array.mk.injEq, List.cons.injEq] at hh
      obtain ⟨-, rfl, rfl, -⟩ := hh
      generalize hW8 : w1.alloc (.cells #[.bool s, .slice A1 l1 c1, .slice A2 l2 c2] 116) = w8 at *
      have HW8 := Lib.hid hW8
      have hlt8 : w1.heap.size < w8.heap.size := lt_of_blk h5
      clear e4 e5 e6 e7 hR1 hR2 hnat hnat2 ew huU hU hW8
      have q0 : w8.cell? ⟨w1.heap.size, 0, none⟩ = some (.bool s) := (cells3 h5).1
      go_upto_region 4 with fail
      rw [HW8.out]
      have hbd : Below w8.heap.size w8 w8.drew := (Below.refl _ _).drew
      have k1 := (cells3 (blk_below hbd h5)).2
      have p1 := z1.below hbd
      have p2 := z2.below hbd
      go_region_held3 (fun w' => w'.cell? ⟨w1.heap.size, 1, none⟩ = some (.slice A1 l1 c1) ∧ w'.cell? ⟨w1.heap.size, 2, none⟩ = some (.slice A2 l2 c2))
        (first | with_reducible exact k1 | with_reducible exact k2 | with_reducible exact k3 | with_reducible exact k4)
        (first
          | (go_at_call 95; (first | with_reducible refine (HNAT.out _).mono ?_ | with_reducible refine (HNAT2.out _).mono ?_); rintro e w2 ⟨v2, rfl, hv2, hb2⟩; have hB2 := below_trans' hbd hbd.size hb2; have k2 := (cells3 (blk_below hB2 h5)).2; have p3 := p1.below hb2)
          | (go_at_call 110; (with_reducible refine (mulNat61 (KD + 64) _ _ n U _ (by decide) hns hUs p3 hv2).mono ?_); rintro e w3 ⟨v3, rfl, hv3, hb3⟩; have hB3 := below_trans' hB2 hB2.size hb3; have k3 := (cells3 (blk_below hB3 h5)).2; have p4 := (p2.below hb2).below hb3)
          | (go_at_call 109; (with_reducible refine (divNat60 (KD + (KD + 64) + 1) _ _ (n * U) d _ (by decide) (by decide) hps hds e1 hv3 p4).mono ?_); rintro e w4 ⟨vq, vr, rfl, hq, hr, hb4⟩; have hB4 := below_trans' hB3 hB3.size hb4; have k4 := (cells3 (blk_below hB4 h5)).2))
      all_goals
        obtain ⟨Aq, lq, cq, rfl, -⟩ := hq.shape (by omega)
        obtain ⟨Ar, lr, cr, rfl, hcr, hmr, hzr⟩ := hr.shape (by omega)
        unfold maxLen at hmr
        have hqs : Sm (KD + (KD + 64) + 1) (n * U / d) := hps.le (Nat.div_le_self _ _)
        have hM : ∀ w, Calls Tryz.prog 95 #[.int .u64 2305843009213693952] w fun e w' => ∃ v, e = .returned v ∧ NatV 1000000000 w' v 2305843009213693952 ∧ Below w.heap.size w w' := fun w => natOf62 2305843009213693952 w (by decide)
        have HM := Lib.hid hM
        clear hM k1 k2 k3 k4 q0 p1 p2 p3 p4 hb2 hb3 hb4 hv2 hv3 hB2 hB3 hr hbd
        by_cases h0 : lr = 0
        · have hm := hzr.1 h0
          have hR3 : R = if 2305843009213693952 < n * U / d then none else if s = true then some (-((n * U / d : Nat) : Int), -((n * U / d : Nat) : Int)) else some (((n * U / d : Nat) : Int), ((n * U / d : Nat) : Int)) := by
            rw [HR2.out]; simp only [hm, if_true]
          have HR3 := Lib.hid hR3
          clear hR3 hm hzr HR2
          subst h0
          generalize n * U / d = Q at *
          go_wp2_with fail
          have hB9 := below_trans' hbW hbW.size (below_trans' hB1 hB1.size hB4)
          refine (HM.out _).mono ?_
          rintro e w6 ⟨vm, rfl, hvm, hb6⟩
          have hB6 := below_trans' hB4 hB4.size hb6
          have hcm := cmpNat64 1000000000 (by omega) _ _ Q 2305843009213693952 w6 (hq.below hb6) hvm
          have hcp := cmpI_pos (a := Q) (b := 2305843009213693952)
          obtain ⟨qc, hqc⟩ : ∃ qc : Int, cmpI Q 2305843009213693952 = qc := ⟨_, rfl⟩
          rw [hqc] at hcm hcp
          have HCP := Lib.hid hcp
          clear hqc hcp
          have hqq := (hq.below hb6)
          have huu := (hq.below hb6)
          have q6 : w6.cell? ⟨w1.heap.size, 0, none⟩ = some (.bool s) := (cells3 (blk_below hB6 h5)).1
          go_wp2_with fail
          refine hcm.mono ?_
          rintro e _ ⟨rfl, kk, rfl⟩
          clear hcm
          have hbk : Below w6.heap.size w6 (w6.drewN kk) := below_drewN (Below.refl _ _) kk
          have hBe := below_trans' hB0 hB0.size (below_trans' hB6 hB6.size hbk)
          have hqk := hqq.below hbk
          have huk := huu.below hbk
          have q7 : (w6.drewN kk).cell? ⟨w1.heap.size, 0, none⟩ = some (.bool s) := q6
          clear q6 hqq huu hbk hB6
          by_cases hgt : 2305843009213693952 < Q
          · have hR0 : R = none := by rw [HR3.out, if_pos hgt]
            subst hR0
            have dq : decide (0 < qc) = true := by rw [HCP.out, decide_eq_true hgt]
            clear hgt
            go_wp2_with fail
            exact bodyPost_ret (v := .tuple #[.int .i64 0, .int .i64 0, .bool false]) (by simp [results, Tryz.results74, go_sem]) rfl ⟨rfl, hBe⟩
          · have dq : decide (0 < qc) = false := by rw [HCP.out, decide_eq_false hgt]
            have n1 := num65 _ Q _ (by omega) huk
            have n2 := num65 _ Q _ (by omega) hqk
            have b1 : ((Q : Nat) : Int) ≤ 2305843009213693952 := by omega
            have b2 : ((Q : Nat) : Int) ≤ 2305843009213693952 := by omega
            have HR4 := Lib.hid (HR3.out.trans (if_neg hgt))
            clear hgt HR3
            cases s with
            | true =>
              go_wp2_with fail
              refine n1.mono ?_
              rintro e _ ⟨rfl, rfl⟩
              go_wp2_with fail
              refine n2.mono ?_
              rintro e _ ⟨rfl, rfl⟩
              clear n1 n2
              go_wp2_with fail
              exact bodyPost_ret (v := .tuple #[.int .i64 (-((Q : Nat) : Int)), .int .i64 (-((Q : Nat) : Int)), .bool true]) (by simp [results, Tryz.results74, go_sem]) rfl ⟨by rw [HR4.out]; rfl, hBe⟩
            | false =>
              go_wp2_with fail
              refine n2.mono ?_
              rintro e _ ⟨rfl, rfl⟩
              go_wp2_with fail
              refine n1.mono ?_
              rintro e _ ⟨rfl, rfl⟩
              clear n1 n2
              go_wp2_with fail
              exact bodyPost_ret (v := .tuple #[.int .i64 ((Q : Nat) : Int), .int .i64 ((Q : Nat) : Int), .bool true]) (by simp [results, Tryz.results74, go_sem]) rfl ⟨by rw [HR4.out]; rfl, hBe⟩
        · have hm : ¬ n * U % d = 0 := fun h => h0 (hzr.2 h)
          have hR3 : R = if 2305843009213693952 < n * U / d + 1 then none else if s = true then some (-((n * U / d + 1 : Nat) : Int), -((n * U / d : Nat) : Int)) else some (((n * U / d : Nat) : Int), ((n * U / d + 1 : Nat) : Int)) := by
            rw [HR2.out]; simp only [hm, if_false]
          have HR3 := Lib.hid hR3
          have dl : decide (0 < lr) = true := by simp; omega
          have hone := natV_lit1_new w4 121
          have hba4 : Below w4.heap.size w4 (w4.alloc (.cells #[.int .u32 1] 121)) := (Below.refl _ _).alloc (Nat.le_refl _) _
          have h1s : Sm (KD + (KD + 64) + 1) 1 := Nat.lt_of_lt_of_le (show 1 < 2 ^ 1 by decide) (Nat.pow_le_pow_right (by omega) (by omega))
          clear hR3 hm hzr HR2
          generalize n * U / d = Q at *
          go_wp2_with fail
          refine (addNat63 (KD + (KD + 64) + 1) _ _ Q 1 _ (by decide) hqs h1s (hq.below hba4) hone).mono ?_
          rintro e w5 ⟨vu, rfl, hvu, hb5⟩
          have hB5 := below_trans' (below_trans' hB4 hB4.size hba4) (below_trans' hB4 hB4.size hba4).size hb5
          have hq5 := (hq.below hba4).below hb5
          obtain ⟨UP, hUP⟩ : ∃ UP, Q + 1 = UP := ⟨_, rfl⟩
          rw [hUP] at hvu HR3
          have hQU : Q ≤ UP := by omega
          clear hUP hone hba4 dl h0
          go_wp2_with fail
          have hB9 := below_trans' hbW hbW.size (below_trans' hB1 hB1.size hB5)
          refine (HM.out _).mono ?_
          rintro e w6 ⟨vm, rfl, hvm, hb6⟩
          have hB6 := below_trans' hB5 hB5.size hb6
          have hcm := cmpNat64 1000000000 (by omega) _ _ UP 2305843009213693952 w6 (hvu.below hb6) hvm
          have hcp := cmpI_pos (a := UP) (b := 2305843009213693952)
          obtain ⟨qc, hqc⟩ : ∃ qc : Int, cmpI UP 2305843009213693952 = qc := ⟨_, rfl⟩
          rw [hqc] at hcm hcp
          have HCP := Lib.hid hcp
          clear hqc hcp
          have hqq := (hq5.below hb6)
          have huu := (hvu.below hb6)
          have q6 : w6.cell? ⟨w1.heap.size, 0, none⟩ = some (.bool s) := (cells3 (blk_below hB6 h5)).1
          go_wp2_with fail
          refine hcm.mono ?_
          rintro e _ ⟨rfl, kk, rfl⟩
          clear hcm
          have hbk : Below w6.heap.size w6 (w6.drewN kk) := below_drewN (Below.refl _ _) kk
          have hBe := below_trans' hB0 hB0.size (below_trans' hB6 hB6.size hbk)
          have hqk := hqq.below hbk
          have huk := huu.below hbk
          have q7 : (w6.drewN kk).cell? ⟨w1.heap.size, 0, none⟩ = some (.bool s) := q6
          clear q6 hqq huu hbk hB6
          by_cases hgt : 2305843009213693952 < UP
          · have hR0 : R = none := by rw [HR3.out, if_pos hgt]
            subst hR0
            have dq : decide (0 < qc) = true := by rw [HCP.out, decide_eq_true hgt]
            clear hgt
            go_wp2_with fail
            exact bodyPost_ret (v := .tuple #[.int .i64 0, .int .i64 0, .bool false]) (by simp [results, Tryz.results74, go_sem]) rfl ⟨rfl, hBe⟩
          · have dq : decide (0 < qc) = false := by rw [HCP.out, decide_eq_false hgt]
            have n1 := num65 _ UP _ (by omega) huk
            have n2 := num65 _ Q _ (by omega) hqk
            have b1 : ((UP : Nat) : Int) ≤ 2305843009213693952 := by omega
            have b2 : ((Q : Nat) : Int) ≤ 2305843009213693952 := by omega
            have HR4 := Lib.hid (HR3.out.trans (if_neg hgt))
            clear hgt HR3
            cases s with
            | true =>
              go_wp2_with fail
              refine n1.mono ?_
              rintro e _ ⟨rfl, rfl⟩
              go_wp2_with fail
              refine n2.mono ?_
              rintro e _ ⟨rfl, rfl⟩
              clear n1 n2
              go_wp2_with fail
              exact bodyPost_ret (v := .tuple #[.int .i64 (-((UP : Nat) : Int)), .int .i64 (-((Q : Nat) : Int)), .bool true]) (by simp [results, Tryz.results74, go_sem]) rfl ⟨by rw [HR4.out]; rfl, hBe⟩
            | false =>
              go_wp2_with fail
              refine n2.mono ?_
              rintro e _ ⟨rfl, rfl⟩
              go_wp2_with fail
              refine n1.mono ?_
              rintro e _ ⟨rfl, rfl⟩
              clear n1 n2
              go_wp2_with fail
              exact bodyPost_ret (v := .tuple #[.int .i64 ((Q : Nat) : Int), .int .i64 ((UP : Nat) : Int), .bool true]) (by simp [results, Tryz.results74, go_sem]) rfl ⟨by rw [HR4.out]; rfl, hBe⟩

/-- Two texts that read as a fraction. -/
def Tx (A B : ByteArray) (x : Rat) : Prop := fitsR x ∧ txt x = (A.data.toList, B.data.toList)
theorem Tx.rd {A B : ByteArray} {x : Rat} (h : Tx A B x) : rdR (A.data.toList, B.data.toList) = some x := rdR_some.2 h
theorem Tx.of_rd {A B : ByteArray} {x : Rat} (h : rdR (A.data.toList, B.data.toList) = some x) : Tx A B x := rdR_some.1 h
theorem ba_ext {A B : ByteArray} (h : A.data.toList = B.data.toList) : A = B := ByteArray.ext (Array.toList_inj.1 h)
theorem Tx.inj {A B C D : ByteArray} {x : Rat} (h : Tx A B x) (g : Tx C D x) : A = C ∧ B = D := by
  have := h.2.symm.trans g.2
  simp only [Prod.mk.injEq] at this
  exact ⟨ba_ext this.1, ba_ext this.2⟩
theorem Tx.val {A B : ByteArray} {x y : Rat} (h : Tx A B x) (g : Tx A B y) : x = y := by
  have := h.rd.symm.trans g.rd
  injection this
theorem Tx.size {A B : ByteArray} {x : Rat} (h : Tx A B x) : A.size ≤ 401 ∧ B.size ≤ 400 ∧ 0 < A.size := by
  have hf := h.1
  have e := h.2
  unfold txt at e
  simp only [Prod.mk.injEq] at e
  rw [← size_list, ← size_list, ← e.1, ← e.2]
  have l1 := (decT_len x.num.natAbs (k := 400) (by decide)).2 hf.1
  have l2 := (decT_len x.den (k := 400) (by decide)).2 hf.2
  have l3 := (decT_spec x.num.natAbs).1.pos
  refine ⟨?_, l2, ?_⟩
  · unfold signT
    split
    · rw [List.length_cons]; omega
    · omega
  · unfold signT
    split
    · rw [List.length_cons]; omega
    · omega
theorem Tx.lens {A B : ByteArray} {x : Rat} (h : Tx A B x) : A.size ≤ maxLen ∧ B.size ≤ maxLen := by
  have := h.size
  unfold maxLen
  omega
theorem txV_tx {x : Rat} (h : fitsR x) : ∃ A B, txV (wrR x) = .tuple #[.agg #[.string A, .string B], .bool true] ∧ Tx A B x := by
  rw [wr_txt h]
  exact ⟨⟨(txt x).1.toArray⟩, ⟨(txt x).2.toArray⟩, rfl, h, rfl⟩
theorem op2_tx {F : Rat → Rat → Option Rat} {A B C D : ByteArray} {x y : Rat} (h : Tx A B x) (g : Tx C D y) : op2 F (A.data.toList, B.data.toList) (C.data.toList, D.data.toList) = (F x y).bind wrR := op2_some h.rd g.rd

theorem bin_tx {f : FuncId} {A B C D : ByteArray} {x y z : Rat} {w : World} {F : Rat → Rat → Option Rat} (h : Tx A B x) (g : Tx C D y) (hz : F x y = some z) (hf : fitsR z)
    (hc : Calls Tryz.prog f #[.agg #[.string A, .string B], .agg #[.string C, .string D]] w fun e w' => e = .returned (txV (op2 F (A.data.toList, B.data.toList) (C.data.toList, D.data.toList))) ∧ Below w.heap.size w w') :
    Calls Tryz.prog f #[.agg #[.string A, .string B], .agg #[.string C, .string D]] w fun e w' => ∃ A' B', e = .returned (.tuple #[.agg #[.string A', .string B'], .bool true]) ∧ Tx A' B' z ∧ Below w.heap.size w w' := by
  refine hc.mono ?_
  rintro e w' ⟨rfl, hb⟩
  rw [op2_tx h g, hz, Option.bind_some]
  obtain ⟨A', B', h1, h2⟩ := txV_tx hf
  exact ⟨A', B', by rw [h1], h2, hb⟩
theorem addX {A B C D : ByteArray} {x y : Rat} (w : World) (h : Tx A B x) (g : Tx C D y) (hf : fitsR (x + y)) :
    Calls Tryz.prog 72 #[.agg #[.string A, .string B], .agg #[.string C, .string D]] w fun e w' => ∃ A' B', e = .returned (.tuple #[.agg #[.string A', .string B'], .bool true]) ∧ Tx A' B' (x + y) ∧ Below w.heap.size w w' :=
  bin_tx h g rfl hf (add27 A B C D w h.lens.1 h.lens.2 g.lens.1 g.lens.2)
theorem subX {A B C D : ByteArray} {x y : Rat} (w : World) (h : Tx A B x) (g : Tx C D y) (hf : fitsR (x - y)) :
    Calls Tryz.prog 71 #[.agg #[.string A, .string B], .agg #[.string C, .string D]] w fun e w' => ∃ A' B', e = .returned (.tuple #[.agg #[.string A', .string B'], .bool true]) ∧ Tx A' B' (x - y) ∧ Below w.heap.size w w' :=
  bin_tx h g rfl hf (sub29 A B C D w h.lens.1 h.lens.2 g.lens.1 g.lens.2)
theorem mulX {A B C D : ByteArray} {x y : Rat} (w : World) (h : Tx A B x) (g : Tx C D y) (hf : fitsR (x * y)) :
    Calls Tryz.prog 98 #[.agg #[.string A, .string B], .agg #[.string C, .string D]] w fun e w' => ∃ A' B', e = .returned (.tuple #[.agg #[.string A', .string B'], .bool true]) ∧ Tx A' B' (x * y) ∧ Below w.heap.size w w' :=
  bin_tx h g rfl hf (mul25 A B C D w h.lens.1 h.lens.2 g.lens.1 g.lens.2)

/-- The fraction that the laws make. -/
def ofQ (num den : Int) : Rat := ratP (decide (num < 0) != decide ((if den = 0 then 1 else den) < 0)) num.natAbs (if den = 0 then 1 else den).natAbs
theorem big400 {n k : Nat} (h : n < 10 ^ 20) (hk : 20 ≤ k) : n < 10 ^ k := Nat.lt_of_lt_of_le h (Nat.pow_le_pow_right (by decide) hk)
theorem ofQ_bd {num den : Int} {N D : Nat} (h1 : num.natAbs ≤ N) (h2 : (if den = 0 then 1 else den).natAbs ≤ D) : bdR N D (ofQ num den) := by
  unfold ofQ
  exact (bd_ratP (by split <;> omega)).mono h1 h2

theorem ofT_ne {num den : Int} (h : den ≠ 0) : ofT num den = wrR (ratP (decide (num < 0) != decide (den < 0)) num.natAbs den.natAbs) := by unfold ofT; rw [if_neg h]
theorem awake_text : Tx ⟨#[45, 51]⟩ ⟨#[50]⟩ (ratP true 6 4) ∧ ofT 6 (-4) = wrR (ratP true 6 4) := by
  obtain ⟨h1, h2, h3⟩ := ratP_num (neg := true) (n := 6) (d := 4) (by decide)
  have hg : Nat.gcd 6 4 = 2 := by decide
  rw [hg] at h1 h2
  refine ⟨⟨(bd_ratP (by decide)).fits (big400 (k := 400) (by decide) (by decide)) (big400 (k := 400) (by decide) (by decide)), ?_⟩, ?_⟩
  · unfold txt
    rw [h3, h1, h2]
    have e3 : decT (6 / 2) = [51] := by unfold decT; rfl
    have e2 : decT (4 / 2) = [50] := by unfold decT; rfl
    rw [e3, e2]; rfl
  · rw [ofT_ne (by decide)]
    have e1 : (decide ((6 : Int) < 0) != decide ((-4 : Int) < 0)) = true := by decide
    rw [e1, show (6 : Int).natAbs = 6 by decide, show (-4 : Int).natAbs = 4 by decide]
theorem awake_scale : scaleT ((⟨#[45, 51]⟩ : ByteArray).data.toList, (⟨#[50]⟩ : ByteArray).data.toList) 1 = some (-2, -1) := by
  obtain ⟨h1, h2, h3⟩ := ratP_num (neg := true) (n := 6) (d := 4) (by decide)
  have hg : Nat.gcd 6 4 = 2 := by decide
  rw [hg] at h1 h2
  have h4 : (ratP true 6 4).num < 0 := of_decide_eq_true (h3.trans (by decide))
  unfold scaleT
  rw [awake_text.1.rd]
  simp only
  rw [if_neg (by decide)]
  unfold scaleR
  rw [h1, h2]
  simp only [h4, if_true]
  decide
end Go.Proofs.YtpligjkbnlfhgaaGreatDoor
