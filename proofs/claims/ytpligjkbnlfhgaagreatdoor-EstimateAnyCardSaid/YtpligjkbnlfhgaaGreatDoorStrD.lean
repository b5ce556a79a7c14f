/- Decimal texts, the reference's. -/
import Derived.Test.YtpligjkbnlfhgaaGreatDoorNat1
import Derived.Test.YtpligjkbnlfhgaaGreatDoorStrA
import Derived.Test.YtpligjkbnlfhgaaGreatDoorStrB
import Derived.Deep.RegionHeld3
namespace Go.Proofs.YtpligjkbnlfhgaaGreatDoor
open Go.RowKit

theorem natU_one {w : World} {g x : Nat} {t : TypeId} (h : w.heap[g]? = some (.cells #[.int .u32 (x : Int)] t (0, 0))) (h0 : x ≠ 0) (hx : x < 4294967296) : NatV 4294967296 w (.slice (some ⟨g, 0, none⟩) 1 1) x := by
  refine ⟨_, 1, 1, fun _ => x, rfl, Nat.le_refl _, by unfold maxLen; omega, fun _ => ⟨g, 0, rfl, lt_of_blk h, fun i hi => ?_⟩, ⟨fun i hi => hx, fun _ => h0⟩, by simp [nv]⟩
  obtain rfl : i = 0 := by omega
  rw [cell_of_block h]; rfl

def decE (n : Nat) : List UInt8 := if n = 0 then [] else decT n
theorem decE_zero : decE 0 = [] := rfl
theorem decE_pos {n : Nat} (h : n ≠ 0) : decE n = decT n := if_neg h
theorem decE_step {n : Nat} (h : n ≠ 0) : decE n = decE (n / 10) ++ [UInt8.ofNat (48 + n % 10)] := by
  unfold decE
  rw [if_neg h]
  by_cases h1 : n < 10
  · rw [if_pos (by omega)]
    unfold decT
    rw [dif_pos h1, Nat.mod_eq_of_lt h1]; rfl
  · rw [if_neg (by omega)]
    conv => lhs; unfold decT
    rw [dif_neg h1]
theorem rem_step {q i N : Nat} (hi : i < 9) : (q * 10 ^ (9 - i) + N) / 10 = q * 10 ^ (9 - (i + 1)) + N / 10 ∧ (q * 10 ^ (9 - i) + N) % 10 = N % 10 := by
  rw [show 9 - i = 9 - (i + 1) + 1 by omega, Nat.pow_succ, ← Nat.mul_assoc]
  generalize q * 10 ^ (9 - (i + 1)) = m
  omega
theorem ext_small {f : Nat → Nat} {n : Nat} (hd : Dig 4294967296 f n) (h : nv 4294967296 f n < 4294967296) : ext f n 0 = nv 4294967296 f n := by
  have hn : n ≤ 1 := len_le (by omega) hd (by simpa using h)
  match n, hn with
  | 0, _ => rw [ext_ge (Nat.le_refl _)]; rfl
  | 1, _ => rw [ext_lt (by omega)]; simp [nv]

set_option maxRecDepth 100000 in
set_option maxHeartbeats 4000000 in
theorem parse117 (s : ByteArray) (w : World) (hs : s.size ≤ 100000) (hd : ∀ b ∈ s.data.toList, 48 ≤ b.toNat ∧ b.toNat ≤ 57) :
    Calls Tryz.prog 87 #[.string s] w fun e w' => ∃ v, e = .returned v ∧ NatV 4294967296 w' v (decV s.data.toList) ∧ Below w.heap.size w w' := by
  have hdg : ∀ j, j < s.size → dgt s.data.toList j < 10 ∧ ∀ (h : j < s.size), s[j].toNat = 48 + dgt s.data.toList j := fun j hj => by
    have e := byte_at s j hj
    have h1 := hd s[j] (List.mem_of_getElem? e)
    unfold dgt
    rw [List.getD_eq_getElem?_getD, e]
    simp only [Option.getD_some]
    exact ⟨by omega, fun _ => by omega⟩
  have hV : decV s.data.toList = preV (dgt s.data.toList) s.size := by unfold decV; rw [size_list]
  rw [hV]
  generalize dgt s.data.toList = D at *
  have HDG := Lib.hid hdg
  have hsm : ∀ k, k ≤ s.size → Sm (4 * s.size + 4) (preV D k) := fun k hk => by
    have h1 := preV_lt (d := D) (n := k) fun i hi => (HDG.out i (by omega)).1
    have h2 : 10 ^ k ≤ 2 ^ (4 * k) := by rw [Nat.pow_mul]; exact Nat.pow_le_pow_left (by decide) k
    exact Nat.lt_of_lt_of_le (Nat.lt_of_lt_of_le h1 h2) (Nat.pow_le_pow_right (by omega) (by omega))
  have hten : Sm (4 * s.size + 4) 10 := Nat.lt_of_lt_of_le (show 10 < 2 ^ 4 by decide) (Nat.pow_le_pow_right (by omega) (by omega))
  have HTEN := Lib.hid hten
  have HSM := Lib.hid hsm
  obtain ⟨K, hK⟩ : ∃ K, 4 * s.size + 4 = K := ⟨_, rfl⟩
  have hKb : K ≤ 1000000 := by omega
  rw [hK] at HSM HTEN
  clear hd hV hdg hsm hten hK
  have hnb : s.size ≤ 9223372036854775807 := by omega
  go_enter Tryz.func87, Tryz.ntmps87
  go_wp2_with fail
  go_loopg [3, 4] s.size (fun r va ii wr => ∃ k : Nat, k ≤ s.size ∧ r = s.size - k ∧ ii = .int .i64 k ∧ NatV 4294967296 wr va (preV D k) ∧ Below w.heap.size w wr)
  case atStart => exact ⟨0, Nat.zero_le _, rfl, rfl, NatV.nil, Below.refl _ _⟩
  case round =>
    obtain ⟨k, hk, hr, rfl, hv, hb⟩ := hrel
    have HR := Lib.hid hr
    clear hr
    obtain ⟨A0, n0, c0, rfl, -⟩ := hv.shape (by omega)
    by_cases hkn : k < s.size
    · obtain ⟨hd1, hd2⟩ := HDG.out k hkn
      have hd2' := hd2 hkn
      have hCb : 48 ≤ ((s[k].toNat : Nat) : Int) ∧ ((s[k].toNat : Nat) : Int) ≤ 57 := by omega
      have eN : ((D k : Nat) : Int) = IntKind.u64.wrap (IntKind.u8.wrap (((s[k].toNat : Nat) : Int) - 48)) := by
        rw [IntWalk.u8_in _ (by omega), IntWalk.u64_in _ (by omega)]; omega
      have hnat := fun w => natural122 (D k) w (by omega)
      rw [eN] at hnat
      have HNAT := Lib.hid hnat
      have hstep : preV D k * 10 + D k = preV D (k + 1) := by rw [preV]
      have HST := Lib.hid hstep
      have s1 : Sm K (preV D k * 10) := (HSM.out (k + 1) (by omega)).le (by have := HST.out; omega)
      have s2 : Sm K (D k) := (HSM.out (k + 1) (by omega)).le (by have := HST.out; omega)
      have hbda : Below wr.heap.size wr (wr.alloc (.cells #[.int .u32 10] 121)).drew := ((Below.refl _ _).alloc (Nat.le_refl _) _).drew
      have hnew : (wr.alloc (.cells #[.int .u32 10] 121)).drew.heap[wr.heap.size]? = some (.cells #[.int .u32 10] 121 (0, 0)) := heap_alloc_new wr _
      have hv10 := natU_one (x := 10) hnew (by decide) (by decide)
      have hva := hv.below hbda
      clear hd2 hd2' eN hnat hstep hv
      go_wp2_with fail
      go_region_held3 (fun _ => True)
        (exact True.intro)
        (first
          | (go_at_call 69; with_reducible refine (times124 K _ _ (preV D k) 10 _ (by omega) (HSM.out k hk) HTEN.out hva hv10).mono ?_; rintro e w1 ⟨v1, rfl, hv1, hb1⟩)
          | (go_at_call 91; with_reducible refine (HNAT.out _).mono ?_; rintro e w2 ⟨v2, rfl, hv2, hb2⟩; have hv1' := hv1.below hb2)
          | (go_at_call 90; with_reducible refine (plus121 K _ _ _ _ _ (by omega) s1 s2 hv1' hv2).mono ?_; rintro e w3 ⟨v3, rfl, hv3, hb3⟩; have hB3 := below_trans' (below_trans' (below_trans' hb hb.size hbda) (below_trans' hb hb.size hbda).size hb1) (below_trans' (below_trans' hb hb.size hbda) (below_trans' hb hb.size hbda).size hb1).size hb2; have hB4 := below_trans' hB3 hB3.size hb3))
      all_goals
        rw [HST.out] at hv3
        go_wp2_with fail
        go_roundg (s.size - (k + 1))
        case measure => have := HR.out; omega
        case rel => exact ⟨k + 1, by omega, rfl, by go_num, hv3, hB4⟩
    · obtain rfl : k = s.size := by omega
      go_wp2_with fail
      go_ret
      exact ⟨_, rfl, hv, hb⟩

set_option maxRecDepth 100000 in
set_option maxHeartbeats 4000000 in
theorem show127 (K : Nat) (v1 : Value) (a : Nat) (w : World) (hK : K ≤ 100000) (hK3 : 30 ≤ K) (s1 : Sm K a) (h1 : NatV 4294967296 w v1 a) :
    Calls Tryz.prog 97 #[v1] w fun e w' => e = .returned (.string ⟨(decT a).toArray⟩) ∧ Below w.heap.size w w' := by
  obtain ⟨A1, n, c1, rfl, hc1, hm1, hz⟩ := h1.shape (by omega)
  unfold maxLen at hm1
  by_cases h0 : n = 0
  · have ha : a = 0 := hz.1 h0
    subst h0
    subst ha
    clear hz hc1 hm1 h1
    go_enter Tryz.func97, Tryz.ntmps97
    go_wp2_with fail
    go_ret
    exact ⟨by rw [show decT 0 = [48] by unfold decT; rfl]; rfl, Below.refl _ _⟩
  · have ha : a ≠ 0 := fun h => h0 (hz.2 h)
    have hlen : (decT a).length ≤ K := (decT_len a (by omega)).2 (Nat.lt_of_lt_of_le s1 (Nat.pow_le_pow_left (by omega) K))
    have h109 : Sm K 1000000000 := Nat.lt_of_lt_of_le (show 1000000000 < 2 ^ 30 by decide) (Nat.pow_le_pow_right (by omega) hK3)
    have hE := decE_pos ha
    obtain ⟨L, hL⟩ : ∃ L, decT a = L := ⟨_, rfl⟩
    rw [hL] at hE hlen ⊢
    have HE := Lib.hid hE
    have HA := Lib.hid ha
    have d0 : ((n : Int) == 0) = false := by rw [beq_eq_false_iff_ne]; omega
    clear hz ha hL hE h0
    go_enter Tryz.func97, Tryz.ntmps97
    go_wp2_with fail
    go_loopg [0, 3, 4, 5, 6, 7] a (fun r va sv _ _ _ _ wr => ∃ (x : Nat) (S : ByteArray), r = x ∧ NatV 4294967296 wr va x ∧ sv = .string S ∧ decE x ++ S.data.toList = L ∧ Sm K x ∧ Below w.heap.size w wr)
    case atStart => exact ⟨a, ⟨#[]⟩, rfl, h1, rfl, by rw [HE.out]; simp, s1, Below.refl _ _⟩
    case round =>
      obtain ⟨x, S, hr, hx, rfl, hS, sx, hb⟩ := hrel
      have HR := Lib.hid hr
      have HS := Lib.hid hS
      clear hr hS d0
      have hx' := hx
      obtain ⟨Ax, m, cx, rfl, hcm, hmm, hz⟩ := hx.shape (by omega)
      unfold maxLen at hmm
      by_cases hm : 0 < m
      · have dm : decide (0 < m) = true := by simpa using hm
        have hnew := heap_alloc_new wr (.cells #[.int .u32 1000000000] 121)
        have hba : Below wr.heap.size wr (wr.alloc (.cells #[.int .u32 1000000000] 121)) := (Below.refl _ _).alloc (Nat.le_refl _) _
        have hv9 := natU_one (x := 1000000000) hnew (by decide) (by decide)
        have hxp : x ≠ 0 := by omega
        have HX := Lib.hid hxp
        clear hxp hz hm hnew
        go_wp2_with fail
        refine (divide120 K _ _ x 1000000000 _ (by omega) sx h109 (by decide) (hx'.below hba) hv9).mono ?_
        rintro e w2 ⟨vq, vr, rfl, hq, hrr, hb2⟩
        have hB2 := below_trans' (below_trans' hb hb.size hba) (below_trans' hb hb.size hba).size hb2
        obtain ⟨Aq, nq, cq, rfl, hcq, hmq, hzq⟩ := hq.shape (by omega)
        obtain ⟨Ar, nr, cr, f, rfl, hcr, hmr, hrd, hdr, hvr⟩ := hrr
        have hmod : x % 1000000000 < 1000000000 := Nat.mod_lt _ (by omega)
        have hext := ext_small hdr (by rw [hvr]; omega)
        rw [hvr] at hext
        have hdig : Calls Tryz.prog 122 #[.slice Ar nr cr, .int .i64 0] w2 fun e w' => e = .returned (.int .u64 (ext f nr 0)) ∧ w2 = w' := digit143 Ar nr cr 0 f w2 (by omega) hrd hdr.1 (by unfold maxLen; omega)
        rw [hext] at hdig
        obtain ⟨Y0, hY0⟩ := letter (x % 1000000000)
        rw [← hY0] at hdig
        have hY0b : 0 ≤ Y0 ∧ Y0 < 1000000000 := by omega
        have HY0 := Lib.hid hY0
        have hst : decE (x / 1000000000 * 10 ^ (9 - 0) + x % 1000000000) ++ S.data.toList = L := by rw [show x / 1000000000 * 10 ^ (9 - 0) + x % 1000000000 = x by rw [show (10 : Nat) ^ (9 - 0) = 1000000000 by decide]; omega]; exact HS.out
        have HST := Lib.hid hst
        have sq : Sm K (x / 1000000000) := sx.le (Nat.div_le_self _ _)
        have hqlt : x / 1000000000 < x := by have := HX.out; omega
        have HQL := Lib.hid hqlt
        obtain ⟨q, hq0⟩ : ∃ q, x / 1000000000 = q := ⟨_, rfl⟩
        rw [hq0] at HST sq HQL hq hzq
        unfold maxLen at hmq
        clear hmod hext hY0 hst hqlt hq0 hb2 hba hv9 hb hx hx' hrd hdr hvr dm
        go_wp2_with fail
        refine hdig.mono ?_
        rintro e _ ⟨rfl, rfl⟩
        clear hdig
        go_wp2_with fail
        have hq' := hq
        have hB2' := hB2
        obtain ⟨wo, hwo⟩ : ∃ wo : World, wo = w2 := ⟨_, rfl⟩
        rw [← hwo] at hq' hB2' ⊢
        clear hq hB2 hwo
        go_loopg [3, 6, 7] 9 (fun r sv nn ii wr => ∃ (i N : Nat) (Y : Int) (S' : ByteArray), i ≤ 9 ∧ r = 9 - i ∧ ii = .int .i64 i ∧ nn = .int .u64 Y ∧ Y = N ∧ 0 ≤ Y ∧ Y < 1000000000 ∧ N < 10 ^ (9 - i) ∧ sv = .string S' ∧ decE (q * 10 ^ (9 - i) + N) ++ S'.data.toList = L ∧ NatV 4294967296 wr (.slice Aq nq cq) q ∧ Below w.heap.size w wr)
        case atStart => exact ⟨0, x % 1000000000, Y0, S, by omega, rfl, rfl, rfl, HY0.out, hY0b.1, hY0b.2, Nat.mod_lt _ (by decide), rfl, HST.out, hq', hB2'⟩
        case round =>
          obtain ⟨i, N, Y, S', hi, hr, rfl, rfl, hY, hY0, hY1, hN, rfl, hS', hqw, hbw⟩ := hrel
          have HRi := Lib.hid hr
          have HY := Lib.hid hY
          have HN := Lib.hid hN
          have HSi := Lib.hid hS'
          have hSl : S'.size ≤ 100000 := by
            have := congrArg List.length HSi.out
            rw [List.length_append, size_list] at this
            omega
          have hHw : w.heap.size ≤ wr.heap.size := hbw.size
          clear hr hY hN hS' hq' hB2'
          by_cases hgo : i < 9 ∧ (0 < nq ∨ 0 < Y)
          · obtain ⟨hi9, hor⟩ := hgo
            obtain ⟨r1, r2⟩ := rem_step (q := q) (N := N) hi9
            have hne : q * 10 ^ (9 - i) + N ≠ 0 := by
              rcases hor with h | h
              · have hq0 : q ≠ 0 := by omega
                have : 0 < q * 10 ^ (9 - i) := Nat.mul_pos (Nat.pos_of_ne_zero hq0) (Nat.pow_pos (by omega))
                omega
              · have := HY.out; omega
            have hstep := decE_step hne
            rw [r1, r2] at hstep
            have hdb := ofNat_dig (d := N % 10) (by omega)
            obtain ⟨b, hb0⟩ : ∃ b, UInt8.ofNat (48 + N % 10) = b := ⟨_, rfl⟩
            rw [hb0] at hstep hdb
            have hval : 48 + Y % 10 = ((b.toNat : Nat) : Int) := by rw [hdb]; have := HY.out; omega
            have hN2 : N / 10 < 10 ^ (9 - (i + 1)) := by
              have := HN.out
              rw [show 9 - i = 9 - (i + 1) + 1 by omega, Nat.pow_succ] at this
              omega
            have hYd : Y / 10 = ((N / 10 : Nat) : Int) := by have := HY.out; omega
            have hconv : (convert 142 9 (.slice (some ⟨wr.heap.size, 0, none⟩) 1 1)).run Tryz.prog (wr.alloc (.cells #[.int .u8 (48 + Y % 10)] 5)) = .ok (.string ⟨#[b]⟩) (wr.alloc (.cells #[.int .u8 (48 + Y % 10)] 5)) :=
              run_convert_bytes_back (wr.alloc (.cells #[.int .u8 (48 + Y % 10)] 5)) 142 9 5 ⟨wr.heap.size, 0, none⟩ 1 [b] Tryz.underlying142 Tryz.underlying5 Tryz.underlying9 (fun j hj => by
                obtain rfl : j = 0 := by simpa using hj
                rw [Go.WideShapes.add_plain, Nat.zero_add, cell_of_block (heap_alloc_new wr _), hval]; rfl)
            have hba : Below wr.heap.size wr (wr.alloc (.cells #[.int .u8 (48 + Y % 10)] 5)) := (Below.refl _ _).alloc (Nat.le_refl _) _
            have hsz : 1 + S'.size ≤ maxLen := by unfold maxLen; omega
            have hst2 : decE (q * 10 ^ (9 - (i + 1)) + N / 10) ++ ((⟨#[b]⟩ : ByteArray) ++ S').data.toList = L := by
              rw [← HSi.out, hstep, ByteArray.data_append]
              simp
            have HST2 := Lib.hid hst2
            have HYD := Lib.hid hYd
            have HN2 := Lib.hid hN2
            clear r1 r2 hne hstep hdb hb0 hval hst2 hYd hN2
            rcases hor with hor | hor
            · have dq : decide (0 < nq) = true := by simpa using hor
              clear hzq
              go_wp2_with fail
              go_roundg (9 - (i + 1))
              case measure => have := HRi.out; omega
              case rel => exact ⟨i + 1, N / 10, Y / 10, (⟨#[b]⟩ : ByteArray) ++ S', by omega, rfl, by go_num, rfl, HYD.out, by omega, by omega, HN2.out, rfl, HST2.out, hqw.below hba, below_trans' hbw hbw.size hba⟩
            · by_cases hnq : 0 < nq
              all_goals
                first | (have dq : decide (0 < nq) = true := by simpa using hnq) | (have dq : decide (0 < nq) = false := by simpa using hnq)
                clear hzq
                go_wp2_with fail
                go_roundg (9 - (i + 1))
                case measure => have := HRi.out; omega
                case rel => exact ⟨i + 1, N / 10, Y / 10, (⟨#[b]⟩ : ByteArray) ++ S', by omega, rfl, by go_num, rfl, HYD.out, by omega, by omega, HN2.out, rfl, HST2.out, hqw.below hba, below_trans' hbw hbw.size hba⟩
          · have hfin : decE q ++ S'.data.toList = L := by
              have h1 : q * 10 ^ (9 - i) + N = q := by
                by_cases h9 : i < 9
                · have e1 : ¬ 0 < nq := fun h => hgo ⟨h9, .inl h⟩
                  have e2 : ¬ 0 < Y := fun h => hgo ⟨h9, .inr h⟩
                  have e3 : q = 0 := hzq.1 (by omega)
                  have := HY.out
                  rw [e3]; omega
                · have e9 : i = 9 := by omega
                  have := HN.out
                  rw [e9] at this ⊢
                  simp at this ⊢
                  exact this
              rw [← h1]; exact HSi.out
            have HF := Lib.hid hfin
            clear hfin
            by_cases h9 : i < 9
            · have e1 : ¬ 0 < nq := fun h => hgo ⟨h9, .inl h⟩
              have e2 : ¬ 0 < Y := fun h => hgo ⟨h9, .inr h⟩
              have dq : decide (0 < nq) = false := by simpa using e1
              clear hgo hzq
              go_wp2_with fail
              go_roundg q
              case measure => have := HR.out; have := HQL.out; omega
              case rel => exact ⟨q, S', rfl, hqw, rfl, HF.out, sq, hbw⟩
            · obtain rfl : i = 9 := by omega
              clear hgo hzq
              go_wp2_with fail
              go_roundg q
              case measure => have := HR.out; have := HQL.out; omega
              case rel => exact ⟨q, S', rfl, hqw, rfl, HF.out, sq, hbw⟩
      · have hx0 : x = 0 := hz.1 (by omega)
        subst hx0
        have dm : decide (0 < m) = false := by simpa using hm
        have HF : S.data.toList = L := by have := HS.out; rw [decE_zero] at this; simpa using this
        have HFF := Lib.hid HF
        clear HF hz hm
        go_wp2_with fail
        go_ret
        have hSL : S = (⟨L.toArray⟩ : ByteArray) := by
          rw [← HFF.out]
        exact ⟨congrArg (fun z => Ending.returned (.string z)) hSL, hb⟩
end Go.Proofs.YtpligjkbnlfhgaaGreatDoor
