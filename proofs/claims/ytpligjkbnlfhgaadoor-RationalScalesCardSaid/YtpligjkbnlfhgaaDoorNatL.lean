/- Long numbers: the reference's number of bits, division, greatest common divisor. -/
import Derived.Test.YtpligjkbnlfhgaaDoorNatK
namespace Go.Proofs.YtpligjkbnlfhgaaDoor
open Go.RowKit

set_option maxRecDepth 100000 in
set_option maxHeartbeats 1000000 in
theorem bits139 (K : Nat) (v1 : Value) (a : Nat) (w : World) (hK : K ≤ 1048576) (s1 : Sm K a) (h1 : NatV 4294967296 w v1 a) :
    Calls Tryd.prog 139 #[v1] w fun e w' => e = .returned (.int .i64 (bitsN a)) ∧ w = w' := by
  obtain ⟨A1, n, c1, f, rfl, hc1, hm1, hr1, hd1, rfl⟩ := h1
  have l1 := s1.len (by omega) hd1
  have hn : n ≤ 1048576 := by omega
  cases n with
  | zero =>
    go_enter Tryd.func139, Tryd.ntmps139
    go_wp2_with fail
    go_ret
    exact ⟨rfl, rfl⟩
  | succ n =>
    have hbits := bitsN_nv hd1 (by omega)
    rw [Nat.add_sub_cancel] at hbits
    have htop := hd1.1 n (by omega)
    obtain ⟨b1, o1, rfl, hb1, hcell1⟩ := hr1 (by omega)
    have x0 := hcell1 n (by omega)
    have ei : ((n + 1 : Nat) : Int) - 1 = (n : Int) := by omega
    have hne : (((n + 1 : Nat) : Int) == 0) = false := by rw [beq_eq_false_iff_ne]; omega
    have HB := Lib.hid hbits
    have hd0 : bitsN (f n) ≤ 32 := bitsN_le_of htop
    have HD := Lib.hid hd0
    clear hbits hcell1 hr1 hd1 s1 hd0
    go_enter Tryd.func139, Tryd.ntmps139
    go_wp2_with fail
    go_loopg [3, 4] (f n) (fun r cn t wr => ∃ (k : Nat) (X c : Int), r = k ∧ X = k ∧ k < 4294967296 ∧ t = .int .u32 X ∧ cn = .int .i64 c ∧ c + bitsN k = 32 * n + bitsN (f n) ∧ 0 ≤ c ∧ c ≤ 100000000 ∧ w = wr)
    case atStart => exact ⟨f n, (f n : Nat), 32 * n, rfl, rfl, htop, rfl, by go_num, rfl, by omega, by omega, rfl⟩
    case round =>
      obtain ⟨k, X, c, hr, hX, hk, rfl, rfl, hc, hc0, hcb, rfl⟩ := hrel
      have hXb : 0 ≤ X ∧ X ≤ 4294967295 := by omega
      have HR := Lib.hid hr
      have HX := Lib.hid hX
      have HC := Lib.hid hc
      clear hr hX hc
      by_cases h0 : 0 < X
      · have hh := bitsN_half (n := k) (by have := HX.out; omega)
        have HH := Lib.hid hh
        clear hh
        have hcc : c + 1 ≤ 100000000 := by have := HC.out; have := HH.out; have := HD.out; omega
        go_wp2_with fail
        go_roundg (k / 2)
        case measure => have := HR.out; have := HX.out; omega
        case rel => exact ⟨k / 2, X / 2, c + 1, rfl, by have := HX.out; omega, by omega, rfl, rfl, by have := HC.out; have := HH.out; omega, by omega, hcc, rfl⟩
      · have e0 : k = 0 := by have := HX.out; omega
        have ec : c = (bitsN (nv 4294967296 f (n + 1)) : Int) := by
          have := HC.out
          rw [e0, bitsN_zero] at this
          rw [HB.out]; omega
        have EC := Lib.hid ec
        clear ec e0
        go_wp2_with fail
        go_ret
        exact ⟨by rw [← EC.out]; rfl, rfl⟩

theorem cmpI_ge {a b : Nat} (h : b ≤ a) : 0 ≤ cmpI a b := by
  unfold cmpI
  rw [if_neg (by omega)]
  split <;> decide
/-- A number that does not lie in block G. -/
def NatX (B G : Nat) (w : World) (v : Value) (x : Nat) : Prop := ∃ A n c f, v = .slice A n c ∧ n ≤ c ∧ c ≤ maxLen ∧ (RdD w A n f ∧ (0 < n → ∀ ad, A = some ad → ad.block ≠ G)) ∧ Dig B f n ∧ nv B f n = x
theorem NatX.nat {B G : Nat} {w : World} {v : Value} {x : Nat} (h : NatX B G w v x) : NatV B w v x := by
  obtain ⟨A, n, c, f, hv, hc, hm, hr, hd, hx⟩ := h
  exact ⟨A, n, c, f, hv, hc, hm, hr.1, hd, hx⟩
theorem NatX.below {B G : Nat} {w w' : World} {v : Value} {x : Nat} (h : NatX B G w v x) (hb : Below w.heap.size w w') : NatX B G w' v x := by
  obtain ⟨A, n, c, f, hv, hc, hm, hr, hd, hx⟩ := h
  exact ⟨A, n, c, f, hv, hc, hm, ⟨hr.1.below hb, hr.2⟩, hd, hx⟩
theorem NatX.set {B G j : Nat} {w : World} {v u : Value} {x : Nat} (h : NatX B G w v x) : NatX B G (w.setCell ⟨G, j, none⟩ u) v x := by
  obtain ⟨A, n, c, f, hv, hc, hm, hr, hd, hx⟩ := h
  refine ⟨A, n, c, f, hv, hc, hm, ⟨fun h0 => ?_, hr.2⟩, hd, hx⟩
  obtain ⟨b, off, hA, hb, hcell⟩ := hr.1 h0
  have hne := hr.2 h0 _ hA
  refine ⟨b, off, hA, by simpa [World.setCell] using hb, fun i hi => ?_⟩
  rw [← hcell i hi]
  have := Below.heap_setCell w ⟨G, j, none⟩ u b hne
  simp only [World.cell?, this]
theorem NatX.of_old {B G : Nat} {w : World} {v : Value} {x : Nat} (h : NatV B w v x) (hG : w.heap.size ≤ G) : NatX B G w v x := by
  obtain ⟨A, n, c, f, hv, hc, hm, hr, hd, hx⟩ := h
  refine ⟨A, n, c, f, hv, hc, hm, ⟨hr, fun h0 ad hA => ?_⟩, hd, hx⟩
  obtain ⟨b, off, hA', hb, _⟩ := hr h0
  rw [hA] at hA'
  injection hA' with hA'
  rw [hA']
  show b ≠ G
  omega
theorem NatX.of_new {B G H : Nat} {w : World} {v : Value} {x : Nat} (h : NatN B H w v x) (hG : G < H) : NatX B G w v x := by
  obtain ⟨⟨A, n, c, f, hv, hc, hm, hr, hd, hx⟩, hN⟩ := h
  refine ⟨A, n, c, f, hv, hc, hm, ⟨hr, fun h0 ad hA => ?_⟩, hd, hx⟩
  subst hv
  subst hA
  have := hN ad.block rfl
  omega
theorem NatX.drewN {B G : Nat} {w : World} {v : Value} {x : Nat} (h : NatX B G w v x) (k : Nat) : NatX B G (w.drewN k) v x := h.below (below_drewN (Below.refl _ _) k)

set_option maxRecDepth 100000 in
set_option maxHeartbeats 4000000 in
theorem divide120 (K : Nat) (v1 v2 : Value) (a b : Nat) (w : World) (hK : K ≤ 500000) (s1 : Sm K a) (s2 : Sm K b) (hb0 : b ≠ 0) (h1 : NatV 4294967296 w v1 a) (h2 : NatV 4294967296 w v2 b) :
    Calls Tryd.prog 120 #[v1, v2] w fun e w' => ∃ q r, e = .returned (.tuple #[q, r]) ∧ NatV 4294967296 w' q (a / b) ∧ NatV 4294967296 w' r (a % b) ∧ Below w.heap.size w w' := by
  have g1 := bits139 K v1 a w (by omega) s1 h1
  have g2 := bits139 K v2 b w (by omega) s2 h2
  have l1 : bitsN a ≤ K := bitsN_le_of s1
  have l2 : bitsN b ≤ K := bitsN_le_of s2
  by_cases hlt : bitsN a < bitsN b
  · have hab := dh_less hlt
    have e1 := Lib.hid (Nat.div_eq_of_lt hab)
    have e2 := Lib.hid (Nat.mod_eq_of_lt hab)
    have d1 : decide ((bitsN a : Int) - (bitsN b : Int) < 0) = true := by simp; omega
    clear hab
    go_enter Tryd.func120, Tryd.ntmps120
    go_wp2_with fail
    refine g1.mono ?_
    rintro e _ ⟨rfl, rfl⟩
    go_wp2_with fail
    refine g2.mono ?_
    rintro e _ ⟨rfl, rfl⟩
    go_wp2_with fail
    go_ret2
    exact ⟨_, _, rfl, by rw [e1.out]; exact NatV.nil, by rw [e2.out]; exact h1, Below.refl _ _⟩
  · have hA := dh_bits hb0 (Nat.not_lt.1 hlt)
    obtain ⟨N, hN⟩ : ∃ N, bitsN a - bitsN b = N := ⟨_, rfl⟩
    rw [hN] at hA
    have hNK : N ≤ K := by omega
    have eN : (bitsN a : Int) - (bitsN b : Int) = (N : Int) := by omega
    have HA := Lib.hid hA
    obtain ⟨i0, hi, hz0, hz1, hz2⟩ := info_parts infoU
    clear hA hlt hN
    generalize bitsN a = ba at *
    generalize bitsN b = bb at *
    go_enter Tryd.func120, Tryd.ntmps120
    go_wp2_with fail
    refine g1.mono ?_
    rintro e _ ⟨rfl, rfl⟩
    go_wp2_with fail
    refine g2.mono ?_
    rintro e _ ⟨rfl, rfl⟩
    clear g1 g2
    have eM : (N : Int) / 32 + 1 = ((N / 32 + 1 : Nat) : Int) := by omega
    obtain ⟨M, hM⟩ : ∃ M, N / 32 + 1 = M := ⟨_, rfl⟩
    rw [hM] at eM
    have hMb : M ≤ 500000 := by omega
    have HM := Lib.hid hM
    clear hM
    go_wp2_with (at_make; refine wpList_make_full _ rfl _ _ 79 rfl w.heap.size 90 i0 (.int .u32 0) 1 Tryd.underlying79 hi hz0 hz1 .i64 .i64 _ _ M rfl rfl (by first | rfl | omega) (by first | rfl | omega) (by rw [hz2]; omega) (by unfold maxLen; omega) (Nat.le_refl _) ?_; intro w0 hown0 hgrow0)
    have hb0' : Below w.heap.size w w0 := (Below.refl _ _).grown hgrow0 (Nat.le_refl _) (fun q hq => by cases hq)
    have ho0 := OwnD.made (E := 90) hown0
    have hlt0 : w.heap.size < w0.heap.size := by
      by_cases hM0 : 0 < M
      · exact (ho0.cell 0 (by simpa using hM0)).2.2.2
      · have := HM.out; omega
    have ha0 := (NatX.of_old (G := w.heap.size) h1 (Nat.le_refl _)).below hb0'
    have hb1 := (NatX.of_old (G := w.heap.size) h2 (Nat.le_refl _)).below hb0'
    clear hown0 hgrow0 eM
    go_wp2_with fail
    refine (shift140 K v2 b N w0 (by omega) s2 (by omega) hb1.nat).mono ?_
    rintro e w1 ⟨v8, rfl, hn8, hb1'⟩
    have hx8 := NatX.of_new hn8 hlt0
    have hbw := below_trans' hb0' hb0'.size hb1'
    have ho1 := ho0.below hb1'
    have ha1 := ha0.below hb1'
    have hlt1 : w.heap.size < w1.heap.size := Nat.lt_of_lt_of_le hlt0 hb1'.size
    have hS8 : Sm (K + K + 1) (b * 2 ^ N) := (s2.mul (m := N + 1) (Nat.pow_lt_pow_right (by omega) (by omega))).mono (by omega)
    clear hn8 hb0' ho0 ha0 hb1 hb1' hlt0
    go_wp2_with fail
    go_loopg [9, 0, 8] (N + 1) (fun r i va vd wr => ∃ (t ac dc : Nat) (L : List Nat), t ≤ N + 1 ∧ r = t ∧ i = .int .i64 ((t : Int) - 1) ∧ NatX 4294967296 w.heap.size wr va ac ∧ NatX 4294967296 w.heap.size wr vd dc ∧ Sm K ac ∧ Sm (K + K + 1) dc ∧ L.length = M ∧ OwnD 90 wr w.heap.size (.slice (some ⟨w.heap.size, 0, none⟩) M M) L ∧ DhI a b ac dc (dl L) M t ∧ Below w.heap.size w wr ∧ w.heap.size < wr.heap.size)
    case atStart => exact ⟨N + 1, a, b * 2 ^ N, List.replicate M 0, Nat.le_refl _, rfl, by go_num, ha1, hx8, s1, hS8, by simp, ho1, by rw [Nat.mul_comm]; exact DhI.start HA.out (fun j hj => dl_replicate j hj), hbw, hlt1⟩
    case round =>
      clear ho1 ha1 hx8 hbw hlt1 hS8
      obtain ⟨t, ac, dc, L, ht, hr, rfl, hxa, hxd, sa, sd, hL, hown, hI, hb, hG⟩ := hrel
      have HR := Lib.hid hr
      have HL := Lib.hid hL
      clear hr hL
      cases t with
      | zero =>
        obtain ⟨k1, k2⟩ := hI.done
        have K1 := Lib.hid k1
        have K2 := Lib.hid k2
        obtain ⟨hn2, hrd⟩ := hown.rd
        rw [HL.out] at hrd
        have hlt : ∀ i, i < M → dl L i < 4294967296 := fun i hi => (hI.qd i hi).1
        clear hI k1 k2 hn2
        go_wp2_with fail
        refine (trim142 4294967296 _ M M _ wr (Nat.le_refl _) (by unfold maxLen; omega) hrd hlt).mono ?_
        rintro e w7 ⟨v, rfl, hv, rfl⟩
        rw [K1.out] at hv
        have hva := hxa.nat
        rw [K2.out] at hva
        go_wp2_with fail
        go_ret2
        exact ⟨_, _, rfl, hv, hva, hb⟩
      | succ t =>
        have ei : ((t + 1 : Nat) : Int) - 1 = (t : Int) := by omega
        rw [ei]
        have htM : t / 32 < M := by have := HM.out; omega
        obtain ⟨q, hq⟩ : ∃ q : Int, cmpI ac dc = q := ⟨_, rfl⟩
        have hcmp := compare119 4294967296 (by omega) _ _ ac dc wr hxa.nat hxd.nat
        rw [hq] at hcmp
        clear ei
        by_cases hle : dc ≤ ac
        · have dq : decide (0 ≤ q) = true := by
            have := cmpI_ge hle
            rw [hq] at this
            simpa using this
          obtain ⟨hor, hlt, hI2⟩ := hI.more hle htM
          have h32 : t % 32 < 32 := Nat.mod_lt _ (by omega)
          have q1 : (t : Int) / 32 = ((t / 32 : Nat) : Int) := by omega
          have q2 : (t : Int) % 32 = ((t % 32 : Nat) : Int) := by omega
          obtain ⟨S, hS⟩ : ∃ S, t / 32 = S := ⟨_, rfl⟩
          obtain ⟨E, hE⟩ : ∃ E, t % 32 = E := ⟨_, rfl⟩
          rw [hS] at hor hlt hI2 q1 htM
          rw [hE] at hor hlt hI2 q2 h32
          clear hS hE
          have hE2 : (2 : Nat) ^ E < 4294967296 := Nat.pow_lt_pow_right (n := 32) (by omega) h32
          obtain ⟨p, hp⟩ : ∃ p : Nat, 2 ^ E = p := ⟨_, rfl⟩
          rw [hp] at hor hlt hI2 hE2
          obtain ⟨Y, hY⟩ := letter (dl L S)
          obtain ⟨P, hP⟩ := letter p
          obtain ⟨Z, hZ⟩ := letter (dl L S + p)
          have e0 : (2 : Int) ^ E = P := by rw [hP, ← hp, Int.natCast_pow]; rfl
          have e1 : IntKind.u32.wrap P = P := IntWalk.u32_in _ (by omega)
          have e2 : bits .or .u32 Y P = Z := by rw [hY, hP, hZ, ← hor]; exact bits_or_u32_nat _ _ (by omega) (by omega)
          have HZ := Lib.hid hZ
          have HI2 := Lib.hid hI2
          have HY := Lib.hid hY
          have HLE := Lib.hid hle
          clear hI hor hY hP hZ hq hI2 hle hp hE2
          go_wp2_with fail
          refine hcmp.mono ?_
          rintro e _ ⟨rfl, k, rfl⟩
          go_wp2_with fail
          refine (minus129 K _ _ ac dc _ (by omega) sa HLE.out (hxa.drewN k).nat (hxd.drewN k).nat).mono ?_
          rintro e w2 ⟨va', rfl, hna, hb2⟩
          have hxa2 := NatX.of_new hna hG
          have hxd2 := (hxd.drewN k).below hb2
          have hown2 := (hown.drewN k).below hb2
          have hbw2 := below_trans' (below_drewN hb k) hb.size hb2
          have hG2 : w.heap.size < w2.heap.size := Nat.lt_of_lt_of_le hG hb2.size
          obtain ⟨z0, z1, _, hlt0⟩ := hown2.cell S (by rw [HL.out]; exact htM)
          unfold u32V at z0
          rw [← HY.out] at z0
          have hset := hown2.set S (dl L S + p)
          unfold u32V at hset
          rw [← HZ.out] at hset
          have HS := Lib.hid hset
          clear hset hna hb2 hown2 hxa hxd hown hb hG hcmp
          go_wp2_with fail
          refine (half141 (K + K + 1) _ dc _ (by omega) sd (NatX.set hxd2).nat).mono ?_
          rintro e w3 ⟨vd', rfl, hnd, hb3⟩
          have hxd3 := NatX.of_new hnd (by simpa [World.setCell] using hG2)
          have hxa3 := (NatX.set hxa2 (j := S) (u := .int .u32 Z)).below hb3
          have hown3 := HS.out.1.below hb3
          have hbw3 := below_trans' (hbw2.setCell (p := ⟨w.heap.size, S, none⟩) (Nat.le_refl _) (.int .u32 Z)) (by simpa [World.setCell] using Nat.le_of_lt hG2) hb3
          have hG3 : w.heap.size < w3.heap.size := Nat.lt_of_lt_of_le (by simpa [World.setCell] using hG2) hb3.size
          clear hnd hb3 hxa2 hxd2 hbw2 hG2 z0 z1 hlt0
          go_wp2_with fail
          go_roundg t
          case measure => have := HR.out; omega
          case rel => exact ⟨t, ac - dc, dc / 2, L.set S (dl L S + p), by omega, rfl, rfl, hxa3, hxd3, sa.le (Nat.sub_le _ _), sd.le (Nat.div_le_self _ _), by rw [List.length_set]; exact HL.out, hown3, by rw [dl_set (by rw [HL.out]; exact htM)]; exact HI2.out, hbw3, hG3⟩
        · have dq : decide (0 ≤ q) = false := by
            have := cmpI_lt (show ac < dc by omega)
            rw [hq] at this
            subst this; rfl
          have hI2 := hI.less (by omega)
          have HI2 := Lib.hid hI2
          clear hI hq hI2 hle htM
          go_wp2_with fail
          refine hcmp.mono ?_
          rintro e _ ⟨rfl, k, rfl⟩
          go_wp2_with fail
          refine (half141 (K + K + 1) _ dc _ (by omega) sd (hxd.drewN k).nat).mono ?_
          rintro e w3 ⟨vd', rfl, hnd, hb3⟩
          have hxd3 := NatX.of_new hnd hG
          have hxa3 := (hxa.drewN k).below hb3
          have hown3 := (hown.drewN k).below hb3
          have hbw3 := below_trans' (below_drewN hb k) hb.size hb3
          have hG3 : w.heap.size < w3.heap.size := Nat.lt_of_lt_of_le hG hb3.size
          clear hnd hb3 hxa hxd hown hb hG hcmp
          go_wp2_with fail
          go_roundg t
          case measure => have := HR.out; omega
          case rel => exact ⟨t, ac, dc / 2, L, by omega, rfl, rfl, hxa3, hxd3, sa, sd.le (Nat.div_le_self _ _), HL.out, hown3, HI2.out, hbw3, hG3⟩
end Go.Proofs.YtpligjkbnlfhgaaDoor
