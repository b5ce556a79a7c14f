/- Long numbers: the reference's differences. -/
import Derived.Test.YtpligjkbnlfhgaaDoorNatH
namespace Go.Proofs.YtpligjkbnlfhgaaDoor
open Go.RowKit

set_option maxRecDepth 100000 in
set_option maxHeartbeats 2000000 in
theorem minus129 (K : Nat) (v1 v2 : Value) (a b : Nat) (w : World) (hK : K ≤ 1048576) (s1 : Sm K a) (hle : b ≤ a) (h1 : NatV 4294967296 w v1 a) (h2 : NatV 4294967296 w v2 b) :
    Calls Tryd.prog 129 #[v1, v2] w fun e w' => ∃ v, e = .returned v ∧ NatN 4294967296 w.heap.size w' v (a - b) ∧ Below w.heap.size w w' := by
  obtain ⟨A1, n, c1, f, rfl, hc1, hm1, hr1, hd1, rfl⟩ := h1
  obtain ⟨A2, m, c2, g, rfl, hc2, hm2, hr2, hd2, rfl⟩ := h2
  have l1 := s1.len (by omega) hd1
  have l2 : m ≤ n := len_le (by omega) hd2 (Nat.lt_of_le_of_lt hle hd1.lt)
  have hn : n ≤ 1048576 := by omega
  have hle' : nv 4294967296 (ext g m) n ≤ nv 4294967296 f n := by rw [nv_ext l2]; exact hle
  have hsub : nv 4294967296 f n - nv 4294967296 g m = nv 4294967296 f n - nv 4294967296 (ext g m) n := by rw [nv_ext l2]
  rw [hsub]
  have HLE := Lib.hid hle'
  have HD1 := Lib.hid hd1.1
  have HD2 := Lib.hid hd2.1
  clear hd1 hd2 hle' hle s1 hm1 hm2 hsub
  obtain ⟨i0, hi, hz0, hz1, hz2⟩ := info_parts infoU
  go_enter Tryd.func129, Tryd.ntmps129
  go_wp2_with (at_make; refine wpList_make_full _ rfl _ _ 79 rfl w.heap.size 90 i0 (.int .u32 0) 1 Tryd.underlying79 hi hz0 hz1 .i64 .i64 _ _ n rfl rfl (by first | rfl | omega) (by first | rfl | omega) (by rw [hz2]; omega) (by unfold maxLen; omega) (Nat.le_refl _) ?_; intro w0 hown0 hgrow0)
  have hb0 : Below w.heap.size w w0 := (Below.refl _ _).grown hgrow0 (Nat.le_refl _) (fun q hq => by cases hq)
  have ho0 := OwnD.made (E := 90) hown0
  clear hown0 hgrow0
  go_wp2_with fail
  go_loopg [7, 6, 8] n (fun r i cc _ wr => ∃ (k c : Nat) (C : Int) (L : List Nat), k ≤ n ∧ r = n - k ∧ i = .int .i64 k ∧ cc = .int .u64 C ∧ C = c ∧ L.length = n ∧ OwnD 90 wr w.heap.size (.slice (some ⟨w.heap.size, 0, none⟩) n n) L ∧ SubI 4294967296 f (ext g m) (dl L) k c ∧ Below w.heap.size w wr)
  case atStart => exact ⟨0, 0, 0, List.replicate n 0, Nat.zero_le _, rfl, rfl, rfl, rfl, by simp, ho0, SubI.zero, hb0⟩
  case round =>
    clear ho0 hb0
    obtain ⟨k, c, C, L, hk, hr, rfl, rfl, hC, hL, hown, hI, hb⟩ := hrel
    have hc1' := hI.c1
    have hCb : 0 ≤ C ∧ C ≤ 1 := by omega
    have HR := Lib.hid hr
    have HC := Lib.hid hC
    have HL := Lib.hid hL
    clear hr hC hL
    have hHw : w.heap.size ≤ wr.heap.size := hb.size
    by_cases hkn : k < n
    · obtain ⟨z0, z1, _, hlt0⟩ := hown.cell k (by rw [HL.out]; exact hkn)
      have g1 := digit143 A1 n c1 k f wr (by unfold maxLen; omega) (hr1.below hb) HD1.out (by unfold maxLen; omega)
      have g2 := digit143 A2 m c2 k g wr (by unfold maxLen; omega) (hr2.below hb) HD2.out (by unfold maxLen; omega)
      rw [ext_lt hkn] at g1
      have hfb := HD1.out k hkn
      have hgb := ext_bd' (by omega) HD2.out k
      obtain ⟨F, hF⟩ := letter (f k)
      obtain ⟨G, hG⟩ := letter (ext g m k)
      rw [← hF] at g1
      rw [← hG] at g2
      have hFb : 0 ≤ F ∧ F ≤ 4294967295 := by omega
      have hGb : 0 ≤ G ∧ G ≤ 4294967295 := by omega
      have G1 := Lib.hid g1
      have G2 := Lib.hid g2
      have HF := Lib.hid hF
      have HG := Lib.hid hG
      obtain ⟨V1, hV1⟩ : ∃ V1, IntKind.u64.wrap (F - G) = V1 := ⟨_, rfl⟩
      obtain ⟨V2, hV2⟩ : ∃ V2, IntKind.u64.wrap (V1 - C) = V2 := ⟨_, rfl⟩
      have hV : V2 = (F - G - C) % 18446744073709551616 := by rw [← hV2, ← hV1, IntKind.wrap_u64, IntKind.wrap_u64]; omega
      have hV2b : 0 ≤ V2 ∧ V2 ≤ 18446744073709551615 := by omega
      have HV := Lib.hid hV
      clear g1 g2 hF hG hfb hgb hr1 hr2 hV
      by_cases hneg : F - G - C < 0
      · obtain ⟨x, hx⟩ : ∃ x : Nat, (x : Int) = F - G - C + 4294967296 := ⟨(F - G - C + 4294967296).toNat, by omega⟩
        have hxb : x < 4294967296 := by omega
        have hI2 := hI.step (x := x) (c' := 1) hxb (by omega) (by have := HF.out; have := HC.out; have := HG.out; omega)
        have hset := hown.set k x
        unfold u32V at hset
        have ex : V2 % 4294967296 = (x : Int) := by have := HV.out; omega
        have ec : V2 / 9223372036854775808 = 1 := by have := HV.out; omega
        rw [← ex] at hset
        have ew : IntKind.u32.wrap V2 = V2 % 4294967296 := IntKind.wrap_u32 _
        have EC := Lib.hid ec
        have HS := Lib.hid hset
        clear hx hI hset ex ec hxb hneg
        go_wp2_with fail
        refine G1.out.mono ?_
        rintro e _ ⟨rfl, rfl⟩
        go_wp2_with fail
        refine G2.out.mono ?_
        rintro e _ ⟨rfl, rfl⟩
        go_wp2_with fail
        go_roundg (n - (k + 1))
        case measure => have := HR.out; omega
        case rel => exact ⟨k + 1, 1, 1, L.set k x, by omega, rfl, by go_num, by rw [EC.out], rfl, by rw [List.length_set]; exact HL.out, HS.out.1, by rw [dl_set (by rw [HL.out]; exact hkn)]; exact hI2, hb.setCell (Nat.le_refl _) _⟩
      · obtain ⟨x, hx⟩ : ∃ x : Nat, (x : Int) = F - G - C := ⟨(F - G - C).toNat, by omega⟩
        have hxb : x < 4294967296 := by omega
        have hI2 := hI.step (x := x) (c' := 0) hxb (by omega) (by have := HF.out; have := HC.out; have := HG.out; omega)
        have hset := hown.set k x
        unfold u32V at hset
        have ex : V2 % 4294967296 = (x : Int) := by have := HV.out; omega
        have ec : V2 / 9223372036854775808 = 0 := by have := HV.out; omega
        rw [← ex] at hset
        have ew : IntKind.u32.wrap V2 = V2 % 4294967296 := IntKind.wrap_u32 _
        have EC := Lib.hid ec
        have HS := Lib.hid hset
        clear hx hI hset ex ec hxb hneg
        go_wp2_with fail
        refine G1.out.mono ?_
        rintro e _ ⟨rfl, rfl⟩
        go_wp2_with fail
        refine G2.out.mono ?_
        rintro e _ ⟨rfl, rfl⟩
        go_wp2_with fail
        go_roundg (n - (k + 1))
        case measure => have := HR.out; omega
        case rel => exact ⟨k + 1, 0, 0, L.set k x, by omega, rfl, by go_num, by rw [EC.out], rfl, by rw [List.length_set]; exact HL.out, HS.out.1, by rw [dl_set (by rw [HL.out]; exact hkn)]; exact hI2, hb.setCell (Nat.le_refl _) _⟩
    · obtain rfl : k = n := by omega
      have hdone := hI.done (by omega) HLE.out
      have hlt := hI.lt
      have HDN := Lib.hid hdone
      obtain ⟨hn2, hrd⟩ := hown.rd
      rw [HL.out] at hrd
      clear hdone hI hn2
      go_wp2_with fail
      refine (trim142 4294967296 _ k k _ wr (Nat.le_refl _) (by unfold maxLen; omega) hrd hlt).mono ?_
      rintro e w7 ⟨v, rfl, hv, rfl⟩
      rw [HDN.out.2] at hv
      go_wp2_with fail
      go_ret
      exact ⟨_, rfl, ⟨hv, fresh_at (Nat.le_refl _)⟩, hb⟩
end Go.Proofs.YtpligjkbnlfhgaaDoor
