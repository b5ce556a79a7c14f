/- The walk of flagstonelaw40.WealthFair. -/
import Derived.Test.YtgonighpjpfmnaaThresh
import Derived.Test.YtgonighpjpfmnaaFair0
import Derived.Test.YtgonighpjpfmnaaWealthGrows
import Derived.Test.YtgonighpjpfmnaaArgs
import Derived.Test.YtgonighpjpfmnaaOfBoth
import Derived.Laws.BitsLemmas
namespace Go.Proofs.Ytgonighpjpfmnaa
open Go.RowKit

theorem and30 (x : Int) (h0 : 0 ≤ x) (h1 : x ≤ 9223372036854775807) : bits .and .i64 x 1073741823 = x % 1073741824 :=
  bits_mask .i64 63 (by decide) (fun n h1 h2 => IntWalk.i64_in _ (by omega)) 30 (by decide) x h0 (by omega)

def kOut : List CK := [.int .u8, .int .u8]
def outP (p : Int × Int) : List Value := [.int .u8 p.1, .int .u8 p.2]
theorem kOut_of {cs : List Value} (h : CellsOk kOut cs) : ∃ p : Int × Int, cs = outP p ∧ 0 ≤ p.1 ∧ p.1 ≤ 255 ∧ 0 ≤ p.2 ∧ p.2 ≤ 255 := by
  unfold kOut at h
  rcases cs with _ | ⟨a, _ | ⟨b, _ | ⟨c, l⟩⟩⟩ <;> simp only [CellsOk, and_false] at h
  obtain ⟨⟨x, rfl, hx⟩, ⟨y, rfl, hy⟩, _⟩ := h
  have b1 := bounds_u8 hx
  have b2 := bounds_u8 hy
  exact ⟨(x, y), rfl, b1.1, b1.2, b2.1, b2.2⟩
theorem kOut_rows {w : World} {a : Option Addr} {len cap : Nat} (h : IsRows kOut w a len cap) : ∃ F : Nat → Int × Int, RowsAt w w.heap.size 2 a len (fun i => outP (F i)) ∧ ByteP F len := by
  obtain ⟨h1, _, f, hf, hR⟩ := h
  have hex : ∀ i, ∃ p : Int × Int, i < cap → f i = outP p ∧ 0 ≤ p.1 ∧ p.1 ≤ 255 ∧ 0 ≤ p.2 ∧ p.2 ≤ 255 := fun i => by
    by_cases hi : i < cap
    · obtain ⟨s, hs⟩ := kOut_of (hf i hi)
      exact ⟨s, fun _ => hs⟩
    · exact ⟨(0, 0), fun h => absurd h hi⟩
  refine ⟨fun i => (hex i).choose, fun hn => ?_, fun i hi => ((hex i).choose_spec (by omega)).2⟩
  obtain ⟨b, off, hA, hb, hc⟩ := hR (by omega)
  refine ⟨b, off, hA, hb, fun i hi j u hu => ?_⟩
  exact hc i (by omega) j u (by rw [((hex i).choose_spec (by omega)).1]; exact hu)

theorem floor50 (a b : Int) (w : World) (hb : 0 < b) (hb2 : b < 4611686018427387904) (ha : -4611686018427387904 < a) (ha' : a < 4611686018427387904) :
    Calls Try.prog 50 #[.int .i64 a, .int .i64 b] w fun e w' => e = .returned (.int .i64 (a / b)) ∧ w = w' := by
  have hbd := floor_bd a b hb ha ha'
  have hf := Lib.hid (tdiv_floor a b hb)
  by_cases h0 : a.tmod b < 0
  all_goals
    go_enter Try.func50, Try.ntmps50
    go_wp2
    go_ret
    exact ⟨ret_int (by have := hf.out; omega), rfl⟩

theorem ediv_bd {a b B : Int} (hb : 1 ≤ b) (h1 : -B ≤ a) (h2 : a ≤ B) (hB : 0 ≤ B) : -B ≤ a / b ∧ a / b ≤ B := by
  have e1 : B * 1 ≤ B * b := Int.mul_le_mul_of_nonneg_left hb hB
  refine ⟨(Int.le_ediv_iff_mul_le (by omega)).2 (by rw [Int.neg_mul]; omega), ?_⟩
  refine Int.le_of_lt_add_one (Int.ediv_lt_of_lt_mul (by omega) ?_)
  rw [Int.add_mul]
  omega

theorem fair_fac {x u r e b : Int} (up : Bool) (h1 : -r ≤ x) (h2 : x ≤ r) (hu : 1 ≤ u) (hu2 : u ≤ 30) (hr : 1 ≤ r) (hr2 : r ≤ 256) (he1 : -1000 ≤ e) (he2 : e ≤ 1000) (hb : 0 ≤ b) (hb2 : b ≤ 4) : facD x u (u + r) e b = 8 * (u + r) * 1000 ∧ facN x u (u + r) e b up = if up = true then 8 * (u + r) * 1000 + gainI x u e b else 8 * (u + r) * 1000 - gainI x u e b := by
  have h : facOk x u (u + r) e b = true := facOk_iff.2 (by omega)
  rw [facD, facN, if_pos h, if_pos h]
  exact ⟨rfl, rfl⟩

theorem digits_mul (n g : Int) : n * (g / 1073741824) * 1073741824 + n * (g % 1073741824) = n * g := by
  have h := Int.mul_ediv_add_emod g 1073741824
  have e : n * (g / 1073741824) * 1073741824 + n * (g % 1073741824) = n * (1073741824 * (g / 1073741824) + g % 1073741824) := by grind
  rw [e, h]

theorem fair_round {T R n G D x P F : Int} (hS : (T * 1073741824 + R) * D ≤ x * P) (hg : G * D ≤ x * F) (hn : 0 ≤ n) : ((T + n * (G / 1073741824)) * 1073741824 + (R + n * (G % 1073741824))) * D ≤ x * (P + n * F) := by
  have h := fair_step hg hS hn
  have e : (T + n * (G / 1073741824)) * 1073741824 + (R + n * (G % 1073741824)) = T * 1073741824 + R + n * G := by
    have := digits_mul n G
    rw [Int.add_mul]
    omega
  rw [e]
  exact h

set_option maxRecDepth 100000 in
set_option maxHeartbeats 2000000 in
theorem wealthFair13 (a0 : Option Addr) (len0 cap0 : Nat) (a1 a2 a3 a4 a5 a6 : Int) (w : World) (w0 : IsRows kOut w a0 len0 cap0) (w1 : (Lit.int .u8 a1).wf = true) (w2 : (Lit.int .u8 a2).wf = true) (w3 : (Lit.int .i64 a3).wf = true) (w4 : (Lit.int .u8 a4).wf = true) (w5 : (Lit.int .u8 a5).wf = true) (w6 : (Lit.int .u8 a6).wf = true) :
    Calls Try.prog 13 #[.slice a0 len0 cap0, .int .u8 a1, .int .u8 a2, .int .i64 a3, .int .u8 a4, .int .u8 a5, .int .u8 a6] w fun e w' => e = .returned (.bool true) ∧ Below w.heap.size w w' := by
  have b1 := bounds_u8 w1
  have b2 := bounds_u8 w2
  have b3 := bounds_i64 w3
  have b4 := bounds_u8 w4
  have b5 := bounds_u8 w5
  have b6 := bounds_u8 w6
  obtain ⟨f, hR, hP⟩ := kOut_rows w0
  clear w0 w1 w2 w3 w4 w5 w6
  by_cases hlen : len0 = 0 ∨ 12 < len0
  · go_enter Try.func13, Try.ntmps13
    go_wp2_with (go_at_call 44; refine (awake44 _).mono ?_; rintro e w' ⟨rfl, hb⟩)
    all_goals (go_ret; exact ⟨rfl, hb⟩)
  · obtain ⟨u, hu⟩ : ∃ u, 1 + a1 % 30 = u := ⟨_, rfl⟩
    obtain ⟨r, hr⟩ : ∃ r, 1 + a2 = r := ⟨_, rfl⟩
    obtain ⟨b, hbt⟩ : ∃ b, a5 % 5 = b := ⟨_, rfl⟩
    have hub : 1 ≤ u ∧ u ≤ 30 := by omega
    have hrb : 1 ≤ r ∧ r ≤ 256 := by omega
    have hbb : 0 ≤ b ∧ b ≤ 4 := by omega
    have hl1 : ((len0 : Int) == 0) = false := by simp; omega
    have hl2 : decide (12 < (len0 : Int)) = false := by simp; omega
    have c3 := half_bd a3
    obtain ⟨U, hU⟩ : ∃ U, IntKind.u64.wrap a3 = U := ⟨_, rfl⟩
    rw [hU] at c3
    have d3 := div_pow_bd c3.1 (a4 % 62).toNat
    obtain ⟨X, hX⟩ : ∃ X, U / 2 / (2 : Int) ^ (a4 % 62).toNat = X := ⟨_, rfl⟩
    rw [hX] at d3
    obtain ⟨x, hx⟩ : ∃ x, min X 2305843009213693952 = x := ⟨_, rfl⟩
    have hxb : 0 ≤ x ∧ x ≤ 2305843009213693952 := by omega
    go_enter Try.func13, Try.ntmps13
    go_wp2_with fail
    refine (awake44 w).mono ?_
    rintro en w1 ⟨rfl, hb1⟩
    have hR1 := (hR.below hb1 (Nat.le_refl _)).more hb1.size
    clear hR
    have hw := fun k hk => wSum_bd hP k hk
    have hn := fun k hk => nSum_bd hP hrb.1 hrb.2 k hk
    have HW := Lib.hid hw
    have HN := Lib.hid hn
    have HP := Lib.hid hP
    clear hw hn hP
    go_wp2_with fail
    go_loopg [19, 17, 18] len0 (fun m i p q wr => ∃ k : Nat, k ≤ len0 ∧ m = len0 - k ∧ i = .int .i64 k ∧ p = .int .i64 (wSum f k) ∧ q = .int .i64 (nSum f r k) ∧ Below w1.heap.size w1 wr)
    case atStart => exact ⟨0, by omega, by omega, rfl, rfl, rfl, Below.refl _ _⟩
    case round =>
      obtain ⟨k, hk, hmk, rfl, rfl, rfl, hbr⟩ := hrel
      have HMK := Lib.hid hmk
      clear hmk
      by_cases hkl : k < len0
      · obtain ⟨bk, off, rfl, hblt, hc⟩ := ((hR1.below hbr (Nat.le_refl _)).more hbr.size) (by omega)
        have v0 := hc k hkl 0 _ rfl
        have v1 := hc k hkl 1 _ rfl
        simp only [Nat.add_zero] at v0
        clear hc
        obtain ⟨p1, p2, p3, p4⟩ := HP.out k hkl
        have p5 := xOf_bd (l := f) hrb.1 k
        have p6 := HW.out k (by omega)
        have p7 := HN.out k (by omega)
        have e1 : wSum f (k + 1) = wSum f k + (1 + (f k).2) := rfl
        have e2 : nSum f r (k + 1) = nSum f r k + (1 + (f k).2) * xOf f r k := rfl
        have e3 : xOf f r k = (f k).1 % (2 * r + 1) - r := rfl
        rw [e3] at e2 p5
        have p8 := mul_le4 (a := (f k).1 % (2 * r + 1) - r) (b := 1 + (f k).2) (A := 256) (B := 256) (by omega) (by omega) (by omega) (by omega) (by omega)
        have p9 : IntKind.i64.wrap ((1 + (f k).2) * ((f k).1 % (2 * r + 1) - r)) = (1 + (f k).2) * ((f k).1 % (2 * r + 1) - r) := IntWalk.i64_in _ (by omega)
        have p10 : 0 < 2 * r + 1 := by omega
        have p11 : ¬ (2 * r + 1 = 0) := by omega
        have E1 := Lib.hid e1
        have E2 := Lib.hid e2
        clear e1 e2 e3
        generalize f k = q at *
        generalize wSum f k = W at *
        generalize nSum f r k = N at *
        go_wp2_with fail
        go_quiet (fail)
        go_wp2_with fail
        go_roundg (len0 - (k + 1))
        case measure => have := HMK.out; omega
        case rel => exact ⟨k + 1, by omega, rfl, by go_num, by rw [E1.out], by rw [E2.out], below_drewN hbr _⟩
      · obtain rfl : k = len0 := by omega
        have p6 := HW.out k (by omega)
        have p7 := HN.out k (by omega)
        have hr1 := hR1
        obtain ⟨W, eW⟩ : ∃ W, wSum f k = W := ⟨_, rfl⟩
        obtain ⟨N, eN⟩ : ∃ N, nSum f r k = N := ⟨_, rfl⟩
        rw [eW] at p6
        rw [eN] at p7
        rw [eW, eN]
        have EW := Lib.hid eW
        have EN := Lib.hid eN
        clear eW eN
        have pm := mul_le4 (a := W) (b := u) (A := 3072) (B := 30) (by omega) (by omega) (by omega) (by omega) (by omega)
        have hpos : 0 < W * u := Int.mul_pos (by omega) (by omega)
        obtain ⟨M, hM⟩ : ∃ M, W * u = M := ⟨_, rfl⟩
        have hM1 : 1 ≤ M ∧ M ≤ 92160 := by rw [← hM]; rw [Int.mul_comm u W] at pm; omega
        have hMw : IntKind.i64.wrap (W * u) = M := by rw [hM]; exact IntWalk.i64_in _ (by omega)
        have hup := fun (den b e : Int) => gP_up (den := den) (b := b) (u := u) (e := e) (W := W) (N := N)
        have hdn := fun (den b e : Int) => gP_down (den := den) (b := b) (u := u) (e := e) (W := W) (N := N)
        rw [hM] at hup hdn
        have HM := Lib.hid hM
        have f1 := ediv_bd (a := N * 1000) (b := M) (B := 786432000) (by omega) (by omega) (by omega) (by omega)
        have f2 := ediv_bd (a := -N * 1000) (b := M) (B := 786432000) (by omega) (by omega) (by omega) (by omega)
        clear hM pm hpos
        go_wp2_with fail
        refine (floor50 (N * 1000) M wr (by omega) (by omega) (by omega) (by omega)).mono ?_
        rintro en _ ⟨rfl, rfl⟩
        generalize hB : N * 1000 / M = bel at *
        go_wp2_with fail
        refine (floor50 (-N * 1000) M wr (by omega) (by omega) (by omega) (by omega)).mono ?_
        rintro en _ ⟨rfl, rfl⟩
        generalize hC : -N * 1000 / M = c at *
        have HC := Lib.hid hC
        have HB := Lib.hid hB
        have HU := Lib.hid hup
        have HD := Lib.hid hdn
        clear hC hB hup hdn
        go_wp2_with fail
        go_loopg [23] 2 (fun m i wi => ∃ q : Nat, q ≤ 2 ∧ m = 2 - q ∧ i = .int .i64 q ∧ Below w1.heap.size w1 wi)
        case atStart => exact ⟨0, by omega, by omega, rfl, hbr⟩
        case round =>
          obtain ⟨q, hq, hmq, rfl, hbi⟩ := hrel
          have HMQ := Lib.hid hmq
          clear hmq hbr
          by_cases hq2 : q < 2
          · have hdq : decide ((q : Int) < 2) = true := by simp; omega
            go_upto_if 121 with fail
            go_cut [24, 25] (fun s24 s25 wx => ∃ (e0 : Int) (up : Bool), s24 = .int .i64 e0 ∧ s25 = .bool up ∧ -1000000000 ≤ e0 ∧ e0 ≤ 1000000000 ∧ wx = wr)
            case first =>
              by_cases h1 : (q : Int) = 1
              · have h1' : ((q : Int) == 1) = true := by simp [h1]
                go_wp2_with fail
                go_meet
                case rel => exact ⟨_, _, rfl, rfl, by omega, by omega, rfl⟩
              · have h1' : ((q : Int) == 1) = false := by simp [h1]
                go_wp2_with fail
                go_meet
                case rel => exact ⟨_, _, rfl, rfl, by omega, by omega, rfl⟩
            case rest =>
              obtain ⟨e0, up, rfl, rfl, he1, he2, rfl⟩ := hcut
              obtain ⟨e, he⟩ : ∃ e, max (-1000) (min e0 1000) = e := ⟨_, rfl⟩
              have heb : -1000 ≤ e ∧ e ≤ 1000 := by omega
              by_cases hgd : (up = true ∧ e < -c) ∨ (up = false ∧ bel < e)
              · rcases hgd with ⟨rfl, h⟩ | ⟨rfl, h⟩
                all_goals
                  go_wp2_with fail
                  go_roundg (2 - (q + 1))
                  case measure => have := HMQ.out; omega
                  case rel => exact ⟨q + 1, by omega, rfl, by go_num, hbi⟩
              · have hfair : ∀ den, gP den b u e up W N ≤ W * den := fun den => by
                  cases up
                  · exact HD.out den b e hbb.1 hub.1 (by omega) (by simp at hgd; omega)
                  · exact HU.out den b e hbb.1 hub.1 (by omega) (by simp at hgd; omega)
                have HF := Lib.hid hfair
                clear hfair
                have hgd1 : up = true → ¬ e < -c := fun h1 h2 => hgd (.inl ⟨h1, h2⟩)
                have hgd2 : up = false → ¬ bel < e := fun h1 h2 => hgd (.inr ⟨h1, h2⟩)
                clear hgd
                cases up with
                | true =>
                  have hg1 := hgd1 rfl
                  clear hgd1 hgd2
                  go_wp2_with fail
                  go_loopg [28, 26, 27] k (fun m i s1 s2 wi => ∃ (j : Nat) (T R : Int), j ≤ k ∧ m = k - j ∧ i = .int .i64 j ∧ s1 = .int .i64 T ∧ s2 = .int .i64 R ∧ 0 ≤ T ∧ T ≤ 549755813888 * j ∧ 0 ≤ R ∧ R ≤ 274877906944 * j ∧ (T * 1073741824 + R) * (8 * (u + r) * 1000) ≤ x * gP (8 * (u + r) * 1000) b u e true (wSum f j) (nSum f r j) ∧ Below w1.heap.size w1 wi)
                  case atStart => exact ⟨0, 0, 0, by omega, by omega, rfl, rfl, rfl, by omega, by omega, by omega, by omega, by simp [gP, wSum, nSum], hbi⟩
                  case round =>
                    obtain ⟨j, T, R, hj, hmj, rfl, rfl, rfl, hT1, hT2, hR2, hR3, hS, hbj⟩ := hrel
                    have HMJ := Lib.hid hmj
                    have HS := Lib.hid hS
                    clear hmj hS
                    by_cases hjk : j < k
                    · have hdj : decide ((j : Int) < k) = true := by simp; omega
                      obtain ⟨bk, off, rfl, hblt, hc⟩ := ((hR1.below hbj (Nat.le_refl _)).more hbj.size) (by omega)
                      have v0 := hc j hjk 0 _ rfl
                      have v1 := hc j hjk 1 _ rfl
                      simp only [Nat.add_zero] at v0
                      clear hc
                      obtain ⟨p1, p2, p3, p4⟩ := HP.out j hjk
                      have p5 := xOf_bd (l := f) hrb.1 j
                      have e1 : wSum f (j + 1) = wSum f j + (1 + (f j).2) := rfl
                      have e2 : nSum f r (j + 1) = nSum f r j + (1 + (f j).2) * xOf f r j := rfl
                      have e3 : (f j).1 % (2 * r + 1) - r = xOf f r j := rfl
                      have p10 : 0 < 2 * r + 1 := by omega
                      have p11 : ¬ (2 * r + 1 = 0) := by omega
                      have st := gP_step (8 * (u + r) * 1000) b u e (wSum f j) (nSum f r j) (1 + (f j).2) (xOf f r j) true
                      rw [← e1, ← e2] at st
                      have HST := Lib.hid st
                      clear st e1 e2
                      generalize xOf f r j = y at *
                      generalize hq' : f j = q' at *
                      clear hq'
                      obtain ⟨z1, z2⟩ := fair_fac true (x := y) (u := u) (r := r) (e := e) (b := b) p5.1 p5.2 hub.1 hub.2 hrb.1 hrb.2 heb.1 heb.2 hbb.1 hbb.2
                      have hfb := fac_bd y u (u + r) e b true
                      rw [z1] at hfb
                      have Z1 := Lib.hid z1
                      have Z2 := Lib.hid z2
                      clear z1 z2
                      generalize hF : facN y u (u + r) e b true = F at *
                      have HFN := Lib.hid hF
                      clear hF
                      have hF0 : 0 ≤ F ∧ F ≤ 4000000000 := by omega
                      go_wp2_with fail
                      refine (fac47 y u (u + r) e b true _ (by omega) (by omega)).mono ?_
                      rintro en wa ⟨rfl, hba⟩
                      rw [HFN.out, Z1.out]
                      have hwr : Below wr.heap.size wr wa := ((Below.refl _ _).alloc (Nat.le_refl _) _).trans (hba.mono (by simp))
                      have v1 := (hwr.cell hblt).trans v1
                      have hblt := Nat.lt_of_lt_of_le hblt hwr.size
                      have hbj := below_trans' hbj hbj.size hwr
                      clear v0 hba hwr
                      go_wp2_with fail
                      refine (grow45 x F (8 * (u + r) * 1000) _ (by omega) (by omega)).mono ?_
                      rintro en _ ⟨rfl, mm, rfl⟩
                      have hG1 := growI_nonneg x F (8 * (u + r) * 1000)
                      have hG2 := growI_le x F (8 * (u + r) * 1000)
                      have hG3 := growI_mul_le (w := x) (num := F) (den := 8 * (u + r) * 1000) hxb.1 hF0.1 (by omega)
                      have HG3 := Lib.hid hG3
                      clear hG3
                      generalize growI x F (8 * (u + r) * 1000) = G at *
                      have a30 := and30 G (by omega) (by omega)
                      have m1 := mul_le4 (a := G / 1073741824) (b := 1 + q'.2) (A := 2147483648) (B := 256) (by omega) (by omega) (by omega) (by omega) (by omega)
                      have m2 := mul_le4 (a := G % 1073741824) (b := 1 + q'.2) (A := 1073741824) (B := 256) (by omega) (by omega) (by omega) (by omega) (by omega)
                      have n1 : 0 ≤ (1 + q'.2) * (G / 1073741824) := Int.mul_nonneg (by omega) (by omega)
                      have n2 : 0 ≤ (1 + q'.2) * (G % 1073741824) := Int.mul_nonneg (by omega) (by omega)
                      have m3 : IntKind.i64.wrap ((1 + q'.2) * (G / 1073741824)) = (1 + q'.2) * (G / 1073741824) := IntWalk.i64_in _ (by omega)
                      have m4 : IntKind.i64.wrap ((1 + q'.2) * (G % 1073741824)) = (1 + q'.2) * (G % 1073741824) := IntWalk.i64_in _ (by omega)
                      go_wp2_with fail
                      go_roundg (k - (j + 1))
                      case measure => have := HMJ.out; omega
                      case rel => exact ⟨j + 1, _, _, by omega, rfl, by go_num, rfl, rfl, by omega, by omega, by omega, by omega, by rw [HST.out, ← Z2.out]; exact fair_round HS.out HG3.out (by omega), below_drewN hbj _⟩
                    · have hdj : decide ((j : Int) < k) = false := by simp; omega
                      obtain rfl : j = k := by omega
                      have hS := HS.out
                      rw [EW.out, EN.out] at hS
                      have hfin := fair_end hS (HF.out _) hxb.1 (by omega)
                      have a30 := and30 x (by omega) (by omega)
                      have b30 := and30 R (by omega) (by omega)
                      have m1 := mul_le4 (a := x / 1073741824) (b := W) (A := 2147483648) (B := 3072) (by omega) (by omega) (by omega) (by omega) (by omega)
                      have m2 := mul_le4 (a := x % 1073741824) (b := W) (A := 1073741824) (B := 3072) (by omega) (by omega) (by omega) (by omega) (by omega)
                      have n1 : 0 ≤ W * (x / 1073741824) := Int.mul_nonneg (by omega) (by omega)
                      have n2 : 0 ≤ W * (x % 1073741824) := Int.mul_nonneg (by omega) (by omega)
                      have m3 : IntKind.i64.wrap (W * (x / 1073741824)) = W * (x / 1073741824) := IntWalk.i64_in _ (by omega)
                      have m4 : IntKind.i64.wrap (W * (x % 1073741824)) = W * (x % 1073741824) := IntWalk.i64_in _ (by omega)
                      have c30 := and30 (W * (x % 1073741824)) (by omega) (by omega)
                      have dg := digits_le hfin rfl (digits_mul W x)
                      have dg1 : ¬ (W * (x / 1073741824) + W * (x % 1073741824) / 1073741824 < T + R / 1073741824) := fun h => dg (.inl h)
                      by_cases hA : T + R / 1073741824 = W * (x / 1073741824) + W * (x % 1073741824) / 1073741824
                      · have dg2 : ¬ (W * (x % 1073741824) % 1073741824 < R % 1073741824) := fun h => dg (.inr ⟨hA, h⟩)
                        clear dg hfin hS
                        go_wp2_with fail
                        go_roundg (2 - (q + 1))
                        case measure => have := HMQ.out; omega
                        case rel => exact ⟨q + 1, by omega, rfl, by go_num, hbj⟩
                      · clear dg hfin hS
                        go_wp2_with fail
                        go_roundg (2 - (q + 1))
                        case measure => have := HMQ.out; omega
                        case rel => exact ⟨q + 1, by omega, rfl, by go_num, hbj⟩
                | false =>
                  have hg1 := hgd2 rfl
                  clear hgd1 hgd2
                  go_wp2_with fail
                  go_loopg [28, 26, 27] k (fun m i s1 s2 wi => ∃ (j : Nat) (T R : Int), j ≤ k ∧ m = k - j ∧ i = .int .i64 j ∧ s1 = .int .i64 T ∧ s2 = .int .i64 R ∧ 0 ≤ T ∧ T ≤ 549755813888 * j ∧ 0 ≤ R ∧ R ≤ 274877906944 * j ∧ (T * 1073741824 + R) * (8 * (u + r) * 1000) ≤ x * gP (8 * (u + r) * 1000) b u e false (wSum f j) (nSum f r j) ∧ Below w1.heap.size w1 wi)
                  case atStart => exact ⟨0, 0, 0, by omega, by omega, rfl, rfl, rfl, by omega, by omega, by omega, by omega, by simp [gP, wSum, nSum], hbi⟩
                  case round =>
                    obtain ⟨j, T, R, hj, hmj, rfl, rfl, rfl, hT1, hT2, hR2, hR3, hS, hbj⟩ := hrel
                    have HMJ := Lib.hid hmj
                    have HS := Lib.hid hS
                    clear hmj hS
                    by_cases hjk : j < k
                    · have hdj : decide ((j : Int) < k) = true := by simp; omega
                      obtain ⟨bk, off, rfl, hblt, hc⟩ := ((hR1.below hbj (Nat.le_refl _)).more hbj.size) (by omega)
                      have v0 := hc j hjk 0 _ rfl
                      have v1 := hc j hjk 1 _ rfl
                      simp only [Nat.add_zero] at v0
                      clear hc
                      obtain ⟨p1, p2, p3, p4⟩ := HP.out j hjk
                      have p5 := xOf_bd (l := f) hrb.1 j
                      have e1 : wSum f (j + 1) = wSum f j + (1 + (f j).2) := rfl
                      have e2 : nSum f r (j + 1) = nSum f r j + (1 + (f j).2) * xOf f r j := rfl
                      have e3 : (f j).1 % (2 * r + 1) - r = xOf f r j := rfl
                      have p10 : 0 < 2 * r + 1 := by omega
                      have p11 : ¬ (2 * r + 1 = 0) := by omega
                      have st := gP_step (8 * (u + r) * 1000) b u e (wSum f j) (nSum f r j) (1 + (f j).2) (xOf f r j) false
                      rw [← e1, ← e2] at st
                      have HST := Lib.hid st
                      clear st e1 e2
                      generalize xOf f r j = y at *
                      generalize hq' : f j = q' at *
                      clear hq'
                      obtain ⟨z1, z2⟩ := fair_fac false (x := y) (u := u) (r := r) (e := e) (b := b) p5.1 p5.2 hub.1 hub.2 hrb.1 hrb.2 heb.1 heb.2 hbb.1 hbb.2
                      have hfb := fac_bd y u (u + r) e b false
                      rw [z1] at hfb
                      have Z1 := Lib.hid z1
                      have Z2 := Lib.hid z2
                      clear z1 z2
                      generalize hF : facN y u (u + r) e b false = F at *
                      have HFN := Lib.hid hF
                      clear hF
                      have hF0 : 0 ≤ F ∧ F ≤ 4000000000 := by omega
                      go_wp2_with fail
                      refine (fac47 y u (u + r) e b false _ (by omega) (by omega)).mono ?_
                      rintro en wa ⟨rfl, hba⟩
                      rw [HFN.out, Z1.out]
                      have hwr : Below wr.heap.size wr wa := ((Below.refl _ _).alloc (Nat.le_refl _) _).trans (hba.mono (by simp))
                      have v1 := (hwr.cell hblt).trans v1
                      have hblt := Nat.lt_of_lt_of_le hblt hwr.size
                      have hbj := below_trans' hbj hbj.size hwr
                      clear v0 hba hwr
                      go_wp2_with fail
                      refine (grow45 x F (8 * (u + r) * 1000) _ (by omega) (by omega)).mono ?_
                      rintro en _ ⟨rfl, mm, rfl⟩
                      have hG1 := growI_nonneg x F (8 * (u + r) * 1000)
                      have hG2 := growI_le x F (8 * (u + r) * 1000)
                      have hG3 := growI_mul_le (w := x) (num := F) (den := 8 * (u + r) * 1000) hxb.1 hF0.1 (by omega)
                      have HG3 := Lib.hid hG3
                      clear hG3
                      generalize growI x F (8 * (u + r) * 1000) = G at *
                      have a30 := and30 G (by omega) (by omega)
                      have m1 := mul_le4 (a := G / 1073741824) (b := 1 + q'.2) (A := 2147483648) (B := 256) (by omega) (by omega) (by omega) (by omega) (by omega)
                      have m2 := mul_le4 (a := G % 1073741824) (b := 1 + q'.2) (A := 1073741824) (B := 256) (by omega) (by omega) (by omega) (by omega) (by omega)
                      have n1 : 0 ≤ (1 + q'.2) * (G / 1073741824) := Int.mul_nonneg (by omega) (by omega)
                      have n2 : 0 ≤ (1 + q'.2) * (G % 1073741824) := Int.mul_nonneg (by omega) (by omega)
                      have m3 : IntKind.i64.wrap ((1 + q'.2) * (G / 1073741824)) = (1 + q'.2) * (G / 1073741824) := IntWalk.i64_in _ (by omega)
                      have m4 : IntKind.i64.wrap ((1 + q'.2) * (G % 1073741824)) = (1 + q'.2) * (G % 1073741824) := IntWalk.i64_in _ (by omega)
                      go_wp2_with fail
                      go_roundg (k - (j + 1))
                      case measure => have := HMJ.out; omega
                      case rel => exact ⟨j + 1, _, _, by omega, rfl, by go_num, rfl, rfl, by omega, by omega, by omega, by omega, by rw [HST.out, ← Z2.out]; exact fair_round HS.out HG3.out (by omega), below_drewN hbj _⟩
                    · have hdj : decide ((j : Int) < k) = false := by simp; omega
                      obtain rfl : j = k := by omega
                      have hS := HS.out
                      rw [EW.out, EN.out] at hS
                      have hfin := fair_end hS (HF.out _) hxb.1 (by omega)
                      have a30 := and30 x (by omega) (by omega)
                      have b30 := and30 R (by omega) (by omega)
                      have m1 := mul_le4 (a := x / 1073741824) (b := W) (A := 2147483648) (B := 3072) (by omega) (by omega) (by omega) (by omega) (by omega)
                      have m2 := mul_le4 (a := x % 1073741824) (b := W) (A := 1073741824) (B := 3072) (by omega) (by omega) (by omega) (by omega) (by omega)
                      have n1 : 0 ≤ W * (x / 1073741824) := Int.mul_nonneg (by omega) (by omega)
                      have n2 : 0 ≤ W * (x % 1073741824) := Int.mul_nonneg (by omega) (by omega)
                      have m3 : IntKind.i64.wrap (W * (x / 1073741824)) = W * (x / 1073741824) := IntWalk.i64_in _ (by omega)
                      have m4 : IntKind.i64.wrap (W * (x % 1073741824)) = W * (x % 1073741824) := IntWalk.i64_in _ (by omega)
                      have c30 := and30 (W * (x % 1073741824)) (by omega) (by omega)
                      have dg := digits_le hfin rfl (digits_mul W x)
                      have dg1 : ¬ (W * (x / 1073741824) + W * (x % 1073741824) / 1073741824 < T + R / 1073741824) := fun h => dg (.inl h)
                      by_cases hA : T + R / 1073741824 = W * (x / 1073741824) + W * (x % 1073741824) / 1073741824
                      · have dg2 : ¬ (W * (x % 1073741824) % 1073741824 < R % 1073741824) := fun h => dg (.inr ⟨hA, h⟩)
                        clear dg hfin hS
                        go_wp2_with fail
                        go_roundg (2 - (q + 1))
                        case measure => have := HMQ.out; omega
                        case rel => exact ⟨q + 1, by omega, rfl, by go_num, hbj⟩
                      · clear dg hfin hS
                        go_wp2_with fail
                        go_roundg (2 - (q + 1))
                        case measure => have := HMQ.out; omega
                        case rel => exact ⟨q + 1, by omega, rfl, by go_num, hbj⟩
          · have hdq : decide ((q : Int) < 2) = false := by simp; omega
            go_wp2_with fail
            go_ret
            exact ⟨rfl, hb1.trans (hbi.mono hb1.size)⟩
end Go.Proofs.Ytgonighpjpfmnaa
