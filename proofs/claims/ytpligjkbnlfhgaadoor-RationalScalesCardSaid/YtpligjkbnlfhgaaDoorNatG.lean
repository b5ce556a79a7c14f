/- Long numbers: the reference's products. -/
import Derived.Test.YtpligjkbnlfhgaaDoorNatF
namespace Go.Proofs.YtpligjkbnlfhgaaDoor
open Go.RowKit

theorem OwnD.drewN {E : TypeId} {w : World} {B : Nat} {v : Value} {L : List Nat} (h : OwnD E w B v L) (k : Nat) : OwnD E (w.drewN k) B v L := h.below (below_drewN (Below.refl _ _) k)

set_option maxRecDepth 100000 in
set_option maxHeartbeats 4000000 in
theorem times124 (K : Nat) (v1 v2 : Value) (a b : Nat) (w : World) (hK : K ≤ 1048576) (s1 : Sm K a) (s2 : Sm K b) (h1 : NatV 4294967296 w v1 a) (h2 : NatV 4294967296 w v2 b) :
    Calls Tryd.prog 124 #[v1, v2] w fun e w' => ∃ v, e = .returned v ∧ NatV 4294967296 w' v (a * b) ∧ Below w.heap.size w w' := by
  obtain ⟨A1, n, c1, f, rfl, hc1, hm1, hr1, hd1, rfl⟩ := h1
  obtain ⟨A2, m, c2, g, rfl, hc2, hm2, hr2, hd2, rfl⟩ := h2
  have l1 := s1.len (by omega) hd1
  have l2 := s2.len (by omega) hd2
  have hn : n ≤ 1048576 := by omega
  have hm : m ≤ 1048576 := by omega
  have HD1 := Lib.hid hd1.1
  have HD2 := Lib.hid hd2.1
  clear hd1 hd2 s1 s2 hm1 hm2 hc1 hc2 l1 l2 hK
  obtain ⟨i0, hi, hz0, hz1, hz2⟩ := info_parts infoU
  go_enter Tryd.func124, Tryd.ntmps124
  go_wp2_with (at_make; refine wpList_make_full _ rfl _ _ 79 rfl w.heap.size 90 i0 (.int .u32 0) 1 Tryd.underlying79 hi hz0 hz1 .i64 .i64 _ _ (n + m) rfl rfl (by first | rfl | omega) (by first | rfl | omega) (by rw [hz2]; omega) (by unfold maxLen; omega) (Nat.le_refl _) ?_; intro w0 hown0 hgrow0)
  have hb0 : Below w.heap.size w w0 := (Below.refl _ _).grown hgrow0 (Nat.le_refl _) (fun q hq => by cases hq)
  have ho0 := OwnD.made (E := 90) hown0
  clear hown0 hgrow0
  go_wp2_with fail
  go_loopg [6, 7, 8, 9] n (fun r i _ _ _ wr => ∃ (k : Nat) (L : List Nat), k ≤ n ∧ r = n - k ∧ i = .int .i64 k ∧ L.length = n + m ∧ OwnD 90 wr w.heap.size (.slice (some ⟨w.heap.size, 0, none⟩) (n + m) (n + m)) L ∧ MulO 4294967296 f g (dl L) n m k ∧ Below w.heap.size w wr)
  case atStart => exact ⟨0, List.replicate (n + m) 0, Nat.zero_le _, rfl, rfl, by simp, ho0, MulO.start (by omega) (fun j hj => dl_replicate j hj), hb0⟩
  case round =>
    clear ho0 hb0
    obtain ⟨k, L, hk, hr, rfl, hL, hown, hO, hb⟩ := hrel
    have HR := Lib.hid hr
    have HL := Lib.hid hL
    clear hr hL
    have hHw : w.heap.size ≤ wr.heap.size := hb.size
    by_cases hkn : k < n
    · obtain ⟨b1, o1, rfl, hb1, hcell1⟩ := hr1 (by omega)
      have x0w := hcell1 k (by omega)
      have hxb0 : f k < 4294967296 := HD1.out k hkn
      obtain ⟨X, hX⟩ := letter (f k)
      have hXb : 0 ≤ X ∧ X ≤ 4294967295 := by omega
      unfold u32V at x0w
      rw [← hX] at x0w
      have HX := Lib.hid hX
      have X0 := Lib.hid x0w
      clear hcell1 hX x0w
      go_wp2_with fail
      obtain ⟨wo, hwo⟩ : ∃ wo : World, wo = wr := ⟨_, rfl⟩
      have hb' := hb
      have hown' := hown
      rw [← hwo] at hb' hown' ⊢
      clear hown hb hwo hHw
      have hI0 := hO.enter (by omega)
      clear hO
      have hI0' := Lib.hid hI0
      clear hI0
      go_loopg [8, 7, 9] m (fun r jv cc _ wr => ∃ (j c : Nat) (C : Int) (L' : List Nat), j ≤ m ∧ r = m - j ∧ jv = .int .i64 j ∧ cc = .int .u64 C ∧ C = c ∧ L'.length = n + m ∧ OwnD 90 wr w.heap.size (.slice (some ⟨w.heap.size, 0, none⟩) (n + m) (n + m)) L' ∧ MulI 4294967296 f g (dl L') n m k j c ∧ Below w.heap.size w wr)
      case atStart => exact ⟨0, 0, 0, L, Nat.zero_le _, rfl, rfl, rfl, rfl, HL.out, hown', hI0'.out, hb'⟩
      case round =>
        clear hown' hb'
        obtain ⟨j, c, C, L', hj, hr, rfl, rfl, hC, hL', hown, hI, hb⟩ := hrel
        have hcb := hI.c1
        have hCb : 0 ≤ C ∧ C ≤ 4294967295 := by omega
        have HRi := Lib.hid hr
        have HC := Lib.hid hC
        have HLi := Lib.hid hL'
        clear hr hC hL'
        have hHw : w.heap.size ≤ wr.heap.size := hb.size
        by_cases hjm : j < m
        · obtain ⟨z0, z1, _, hlt0⟩ := hown.cell (k + j) (by rw [HLi.out]; omega)
          obtain ⟨b2, o2, rfl, hb2, hcell2⟩ := hr2 (by omega)
          have y0 := hcell2 j (by omega)
          replace y0 : wr.cell? ⟨b2, o2 + j, none⟩ = some (u32V (g j)) := by rw [← y0]; exact hb.cell (p := ⟨b2, o2 + j, none⟩) hb2
          have x0 : wr.cell? ⟨b1, o1 + k, none⟩ = some (.int .u32 X) := by rw [← X0.out]; exact hb.cell (p := ⟨b1, o1 + k, none⟩) hb1
          have hyb : g j < 4294967296 := HD2.out j hjm
          have hob : dl L' (k + j) < 4294967296 := hI.lt (k + j) (by omega)
          obtain ⟨Y, hY⟩ := letter (g j)
          obtain ⟨O, hO⟩ := letter (dl L' (k + j))
          have hYb : 0 ≤ Y ∧ Y ≤ 4294967295 := by omega
          have hOb : 0 ≤ O ∧ O ≤ 4294967295 := by omega
          unfold u32V at y0 z0
          rw [← hY] at y0
          rw [← hO] at z0
          have hlt2 : b2 < wr.heap.size := by omega
          have hlt1 : b1 < wr.heap.size := by omega
          obtain ⟨hI2, hbig⟩ := hI.step (by omega) hkn hjm hxb0 hyb
          have hp := mul_bd hXb.1 hXb.2 hYb.1 hYb.2
          obtain ⟨P, hP⟩ : ∃ P : Int, X * Y = P := ⟨_, rfl⟩
          rw [hP] at hp
          have hPn : P = ((f k * g j : Nat) : Int) := by rw [← hP, HX.out, hY, Int.natCast_mul]
          have e1 : IntKind.u64.wrap (X * Y) = P := by rw [hP]; exact IntWalk.u64_in _ (by omega)
          obtain ⟨S, hS⟩ : ∃ S : Int, P + O + C = S := ⟨_, rfl⟩
          have e2 : IntKind.u64.wrap (P + O) = P + O := IntWalk.u64_in _ (by omega)
          have e3 : IntKind.u64.wrap (P + O + C) = S := by rw [hS]; exact IntWalk.u64_in _ (by omega)
          have hSb : 0 ≤ S ∧ S ≤ 18446744073709551615 := by omega
          have ed : S % 4294967296 = ((dl L' (k + j) + f k * g j + c) % 4294967296 : Nat) ∧ S / 4294967296 = ((dl L' (k + j) + f k * g j + c) / 4294967296 : Nat) := by
            have := HC.out; omega
          have ew : IntKind.u32.wrap S = S % 4294967296 := IntKind.wrap_u32 _
          have i1 : IntKind.i64.wrap ((k : Int) + (j : Int)) = (k : Int) + (j : Int) := IntWalk.i64_in _ (by omega)
          have i2 : (0 : Int) ≤ (k : Int) + (j : Int) := by omega
          have i3 : ((k : Int) + (j : Int)).toNat = k + j := by omega
          have hset := hown.set (k + j) ((dl L' (k + j) + f k * g j + c) % 4294967296)
          unfold u32V at hset
          rw [← ed.1] at hset
          have HS := Lib.hid hset
          have HE := Lib.hid ed.2
          clear hcell2 hY hO hP hPn hS ed hI hset hr1 hr2 hbig hob hyb hxb0 hp
          go_wp2_with fail
          go_quiet (fail)
          go_wp2_with fail
          go_roundg (m - (j + 1))
          case measure => have := HRi.out; omega
          case rel => exact ⟨j + 1, _, _, L'.set (k + j) ((dl L' (k + j) + f k * g j + c) % 4294967296), by omega, rfl, by go_num, rfl, HE.out, by rw [List.length_set]; exact HLi.out, HS.out.1.drewN _, by rw [dl_set (by rw [HLi.out]; omega)]; exact hI2, below_drewN (hb.setCell (Nat.le_refl _) _) _⟩
        · obtain rfl : j = m := by omega
          obtain ⟨z0, z1, _, hlt0⟩ := hown.cell (k + j) (by rw [HLi.out]; omega)
          have hO2 := hI.last hkn
          have ew : IntKind.u32.wrap C = C := IntWalk.u32_in _ (by omega)
          have hset := hown.set (k + j) c
          unfold u32V at hset
          rw [← HC.out] at hset
          have HS := Lib.hid hset
          clear hI hset hr1 hr2 hxb0
          go_wp2_with fail
          go_roundg (n - (k + 1))
          case measure => have := HR.out; omega
          case rel => exact ⟨k + 1, L'.set (k + j) c, by omega, rfl, by go_num, by rw [List.length_set]; exact HLi.out, HS.out.1, by rw [dl_set (by rw [HLi.out]; omega)]; exact hO2, hb.setCell (Nat.le_refl _) _⟩
    · obtain rfl : k = n := by omega
      have hdone := Lib.hid hO.eq
      have hlt := hO.lt
      obtain ⟨hn2, hrd⟩ := hown.rd
      rw [HL.out] at hrd
      clear hO hn2
      go_wp2_with fail
      refine (trim142 4294967296 _ (k + m) (k + m) _ wr (Nat.le_refl _) (by unfold maxLen; omega) hrd hlt).mono ?_
      rintro e w7 ⟨v, rfl, hv, rfl⟩
      rw [hdone.out] at hv
      go_wp2_with fail
      go_ret
      exact ⟨_, rfl, hv, hb⟩
end Go.Proofs.YtpligjkbnlfhgaaDoor
