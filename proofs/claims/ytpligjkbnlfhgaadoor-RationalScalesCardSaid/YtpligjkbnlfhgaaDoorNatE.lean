/- Long numbers: the program's differences. -/
import Derived.Test.YtpligjkbnlfhgaaDoorNatD
namespace Go.Proofs.YtpligjkbnlfhgaaDoor
open Go.RowKit

set_option maxRecDepth 100000 in
set_option maxHeartbeats 2000000 in
theorem subNat128 (K : Nat) (v1 v2 : Value) (a b : Nat) (w : World) (hK : K ≤ 1048576) (s1 : Sm K a) (hle : b ≤ a) (h1 : NatV 1000000000 w v1 a) (h2 : NatV 1000000000 w v2 b) :
    Calls Tryd.prog 128 #[v1, v2] w fun e w' => ∃ v, e = .returned v ∧ NatV 1000000000 w' v (a - b) ∧ Below w.heap.size w w' := by
  obtain ⟨A1, n, c1, f, rfl, hc1, hm1, hr1, hd1, rfl⟩ := h1
  obtain ⟨A2, m, c2, g, rfl, hc2, hm2, hr2, hd2, rfl⟩ := h2
  have l1 := s1.len (by omega) hd1
  have l2 : m ≤ n := len_le (by omega) hd2 (Nat.lt_of_le_of_lt hle hd1.lt)
  have hn : n ≤ 1048576 := by omega
  have hle' : nv 1000000000 (ext g m) n ≤ nv 1000000000 f n := by rw [nv_ext l2]; exact hle
  have hsub : nv 1000000000 f n - nv 1000000000 g m = nv 1000000000 f n - nv 1000000000 (ext g m) n := by rw [nv_ext l2]
  rw [hsub]
  have HLE := Lib.hid hle'
  have HD1 := Lib.hid hd1.1
  have HD2 := Lib.hid hd2.1
  clear hd1 hd2 hle' hle s1 hm1 hm2 hsub
  obtain ⟨i0, hi, hz0, hz1, hz2⟩ := info_parts infoU
  go_enter Tryd.func128, Tryd.ntmps128
  go_wp2_with (at_make; refine wpList_make_full _ rfl _ _ 80 rfl w.heap.size 90 i0 (.int .u32 0) 1 Tryd.underlying80 hi hz0 hz1 .i64 .i64 _ _ n rfl rfl (by first | rfl | omega) (by first | rfl | omega) (by rw [hz2]; omega) (by unfold maxLen; omega) (Nat.le_refl _) ?_; intro w0 hown0 hgrow0)
  have hb0 : Below w.heap.size w w0 := (Below.refl _ _).grown hgrow0 (Nat.le_refl _) (fun q hq => by cases hq)
  have ho0 := OwnD.made (E := 90) hown0
  clear hown0 hgrow0
  go_wp2_with fail
  go_loopg [15, 6, 7, 8, 9] n (fun r i cc _ _ _ wr => ∃ (k c : Nat) (C : Int) (L : List Nat), k ≤ n ∧ r = n - k ∧ i = .int .i64 k ∧ cc = .int .i64 C ∧ C = c ∧ L.length = n ∧ OwnD 90 wr w.heap.size (.slice (some ⟨w.heap.size, 0, none⟩) n n) L ∧ SubI 1000000000 f (ext g m) (dl L) k c ∧ Below w.heap.size w wr)
  case atStart => exact ⟨0, 0, 0, List.replicate n 0, Nat.zero_le _, rfl, rfl, rfl, rfl, by simp, ho0, SubI.zero, hb0⟩
  case round =>
    clear ho0 hb0
    obtain ⟨k, c, C, L, hk, hr, rfl, rfl, hC, hL, hown, hI, hb⟩ := hrel
    have hc1' := hI.c1
    have hCb : 0 ≤ C ∧ C ≤ 1 := by omega
    have HR := Lib.hid hr
    have HC := Lib.hid hC
    have HL := Lib.hid hL
    clear hr hC hL
    have hHw : w.heap.size ≤ wr.heap.size := hb.size
    by_cases hkn : k < n
    · obtain ⟨z0, z1, _, hlt0⟩ := hown.cell k (by rw [HL.out]; exact hkn)
      obtain ⟨b1, o1, rfl, hb1, hcell1⟩ := hr1 (by omega)
      have x0 := hcell1 k (by omega)
      replace x0 : wr.cell? ⟨b1, o1 + k, none⟩ = some (u32V (f k)) := by rw [← x0]; exact hb.cell (p := ⟨b1, o1 + k, none⟩) hb1
      have hxb0 : f k < 1000000000 := HD1.out k hkn
      obtain ⟨F, hF⟩ := letter (f k)
      have hFb : 0 ≤ F ∧ F < 1000000000 := by omega
      unfold u32V at x0
      rw [← hF] at x0
      have HF := Lib.hid hF
      have hlt : b1 < wr.heap.size := by omega
      clear hcell1 hF
      by_cases hkm : k < m
      · obtain ⟨b2, o2, rfl, hb2, hcell2⟩ := hr2 (by omega)
        have y0 := hcell2 k (by omega)
        replace y0 : wr.cell? ⟨b2, o2 + k, none⟩ = some (u32V (g k)) := by rw [← y0]; exact hb.cell (p := ⟨b2, o2 + k, none⟩) hb2
        have hyb : g k < 1000000000 := HD2.out k hkm
        have heg : ext g m k = g k := ext_lt hkm
        obtain ⟨G, hG⟩ := letter (g k)
        have hGb : 0 ≤ G ∧ G < 1000000000 := by omega
        unfold u32V at y0
        rw [← hG] at y0
        have HG := Lib.hid hG
        have hlt2 : b2 < wr.heap.size := by omega
        clear hcell2 hG hr1 hr2
        by_cases hneg : F - C - G < 0
        · have dn : decide (F - C - G < 0) = true := by simpa using hneg
          obtain ⟨x, hx⟩ : ∃ x : Nat, (x : Int) = F - C - G + 1000000000 := ⟨(F - C - G + 1000000000).toNat, by omega⟩
          have hxb : x < 1000000000 := by omega
          have hI2 := hI.step (x := x) (c' := 1) hxb (by omega) (by rw [heg]; have := HF.out; have := HC.out; have := HG.out; omega)
          have hset := hown.set k x
          unfold u32V at hset
          rw [hx] at hset
          have ew : IntKind.u32.wrap (F - C - G + 1000000000) = F - C - G + 1000000000 := IntWalk.u32_in _ (by omega)
          have HX := Lib.hid hx
          have HS := Lib.hid hset
          clear hx heg hI hset
          go_wp2_with fail
          go_roundg (n - (k + 1))
          case measure => have := HR.out; omega
          case rel => exact ⟨k + 1, 1, 1, L.set k x, by omega, rfl, by go_num, rfl, rfl, by rw [List.length_set]; exact HL.out, HS.out.1, by rw [dl_set (by rw [HL.out]; exact hkn)]; exact hI2, hb.setCell (Nat.le_refl _) _⟩
        · have dn : decide (F - C - G < 0) = false := by simpa using hneg
          obtain ⟨x, hx⟩ : ∃ x : Nat, (x : Int) = F - C - G := ⟨(F - C - G).toNat, by omega⟩
          have hxb : x < 1000000000 := by omega
          have hI2 := hI.step (x := x) (c' := 0) hxb (by omega) (by rw [heg]; have := HF.out; have := HC.out; have := HG.out; omega)
          have hset := hown.set k x
          unfold u32V at hset
          rw [hx] at hset
          have ew : IntKind.u32.wrap (F - C - G) = F - C - G := IntWalk.u32_in _ (by omega)
          have HX := Lib.hid hx
          have HS := Lib.hid hset
          clear hx heg hI hset
          go_wp2_with fail
          go_roundg (n - (k + 1))
          case measure => have := HR.out; omega
          case rel => exact ⟨k + 1, 0, 0, L.set k x, by omega, rfl, by go_num, rfl, rfl, by rw [List.length_set]; exact HL.out, HS.out.1, by rw [dl_set (by rw [HL.out]; exact hkn)]; exact hI2, hb.setCell (Nat.le_refl _) _⟩
      · have heg : ext g m k = 0 := ext_ge (by omega)
        clear hr1 hr2
        by_cases hneg : F - C < 0
        · have dn : decide (F - C < 0) = true := by simpa using hneg
          obtain ⟨x, hx⟩ : ∃ x : Nat, (x : Int) = F - C + 1000000000 := ⟨(F - C + 1000000000).toNat, by omega⟩
          have hxb : x < 1000000000 := by omega
          have hI2 := hI.step (x := x) (c' := 1) hxb (by omega) (by rw [heg]; have := HF.out; have := HC.out; omega)
          have hset := hown.set k x
          unfold u32V at hset
          rw [hx] at hset
          have ew : IntKind.u32.wrap (F - C + 1000000000) = F - C + 1000000000 := IntWalk.u32_in _ (by omega)
          have HX := Lib.hid hx
          have HS := Lib.hid hset
          clear hx heg hI hset
          go_wp2_with fail
          go_roundg (n - (k + 1))
          case measure => have := HR.out; omega
          case rel => exact ⟨k + 1, 1, 1, L.set k x, by omega, rfl, by go_num, rfl, rfl, by rw [List.length_set]; exact HL.out, HS.out.1, by rw [dl_set (by rw [HL.out]; exact hkn)]; exact hI2, hb.setCell (Nat.le_refl _) _⟩
        · have dn : decide (F - C < 0) = false := by simpa using hneg
          obtain ⟨x, hx⟩ : ∃ x : Nat, (x : Int) = F - C := ⟨(F - C).toNat, by omega⟩
          have hxb : x < 1000000000 := by omega
          have hI2 := hI.step (x := x) (c' := 0) hxb (by omega) (by rw [heg]; have := HF.out; have := HC.out; omega)
          have hset := hown.set k x
          unfold u32V at hset
          rw [hx] at hset
          have ew : IntKind.u32.wrap (F - C) = F - C := IntWalk.u32_in _ (by omega)
          have HX := Lib.hid hx
          have HS := Lib.hid hset
          clear hx heg hI hset
          go_wp2_with fail
          go_roundg (n - (k + 1))
          case measure => have := HR.out; omega
          case rel => exact ⟨k + 1, 0, 0, L.set k x, by omega, rfl, by go_num, rfl, rfl, by rw [List.length_set]; exact HL.out, HS.out.1, by rw [dl_set (by rw [HL.out]; exact hkn)]; exact hI2, hb.setCell (Nat.le_refl _) _⟩
    · obtain rfl : k = n := by omega
      have hdone := hI.done (by omega) HLE.out
      have hlt := hI.lt
      have HDN := Lib.hid hdone
      obtain ⟨hn2, hrd⟩ := hown.rd
      rw [HL.out] at hrd
      clear hdone hI hn2
      go_wp2_with fail
      refine (trim115 1000000000 _ k k _ wr (Nat.le_refl _) (by unfold maxLen; omega) hrd hlt).mono ?_
      rintro e w7 ⟨v, rfl, hv, rfl⟩
      rw [HDN.out.2] at hv
      go_wp2_with fail
      go_ret
      exact ⟨_, rfl, hv, hb⟩
end Go.Proofs.YtpligjkbnlfhgaaDoor
