/- Long numbers: the divisor is added to a part of a number. -/
import Derived.Test.YtpligjkbnlfhgaaDoorNatP
namespace Go.Proofs.YtpligjkbnlfhgaaDoor
open Go.RowKit

/-- What restore leaves. -/
def ResPost (w : World) (G B k n Lr cap : Nat) (L : List Nat) (v : Nat → Nat) (w' : World) : Prop :=
  ∃ (c : Nat) (L' : List Nat), L'.length = Lr ∧ OwnD 90 w' B (.slice (some ⟨G, 0, none⟩) Lr cap) L' ∧ (∀ j, j < k ∨ k + (n + 1) ≤ j → dl L' j = dl L j) ∧
    AddI 1000000000 (offN (dl L) k) (ext v n) (offN (dl L') k) (n + 1) c ∧ w.grownBy w' (some G)

set_option maxRecDepth 100000 in
set_option maxHeartbeats 4000000 in
theorem restore114 (G B k n Lr cap c1 c2 : Nat) (A2 : Option Addr) (L : List Nat) (v : Nat → Nat) (w : World) (hown0 : OwnD 90 w B (.slice (some ⟨G, 0, none⟩) Lr cap) L) (hL0 : L.length = Lr) (hk : k + n + 1 ≤ Lr) (hLr : Lr ≤ 4194304)
    (hLd : ∀ j, j < Lr → dl L j < 1000000000) (h2 : RdD w A2 n v) (hd2 : ∀ j, j < n → v j < 1000000000) (hsep : 0 < n → ∀ ad, A2 = some ad → ad.block ≠ G) :
    Calls Tryd.prog 114 #[.slice (some ⟨G, k, none⟩) (n + 1) c1, .slice A2 n c2] w fun e w' => e = .returned (.tuple #[]) ∧ ResPost w G B k n Lr cap L v w' := by
  have HD2 := Lib.hid hd2
  have HLD := Lib.hid hLd
  have HSP := Lib.hid hsep
  clear hd2 hLd hsep
  obtain ⟨N, hN⟩ : ∃ N, n + 1 = N := ⟨_, rfl⟩
  rw [hN]
  have hNb : N ≤ 4194304 := by omega
  have HN := Lib.hid hN
  clear hN
  go_enter Tryd.func114, Tryd.ntmps114
  go_wp2_with fail
  go_loopg [9, 4, 5, 6] N (fun m ii cc _ _ wr => ∃ (i c : Nat) (C : Int) (L' : List Nat), i ≤ N ∧ m = N - i ∧ ii = .int .i64 i ∧ cc = .int .u32 C ∧ C = c ∧ L'.length = Lr ∧ OwnD 90 wr B (.slice (some ⟨G, 0, none⟩) Lr cap) L' ∧ (∀ j, j < k ∨ k + i ≤ j → dl L' j = dl L j) ∧
    AddI 1000000000 (offN (dl L) k) (ext v n) (offN (dl L') k) i c ∧ w.grownBy wr (some G))
  case atStart => exact ⟨0, 0, 0, L, Nat.zero_le _, rfl, rfl, rfl, rfl, hL0, hown0, fun _ _ => rfl, AddI.zero, only_refl _ _⟩
  case round =>
    obtain ⟨i, c, C, L', hi, hr, rfl, rfl, hC, hL, hown, hF, hI, hgr⟩ := hrel
    have hc1 := hI.c1
    have hCb : 0 ≤ C ∧ C ≤ 1 := by omega
    have HR := Lib.hid hr
    have HC := Lib.hid hC
    have HL := Lib.hid hL
    have HF := Lib.hid hF
    clear hr hC hL hF hown0
    by_cases hin : i < N
    · have hkL : k + i < Lr := by have := HN.out; omega
      obtain ⟨z0, z1, _, hlt0⟩ := hown.cell (k + i) (by rw [HL.out]; exact hkL)
      rw [HF.out (k + i) (by omega)] at z0
      obtain ⟨X, hX⟩ := letter (dl L (k + i))
      have hxb0 := HLD.out (k + i) hkL
      have hXb : 0 ≤ X ∧ X < 1000000000 := by omega
      unfold u32V at z0
      rw [← hX] at z0
      have hX' : X = ((offN (dl L) k i : Nat) : Int) := hX
      have HX := Lib.hid hX'
      have hgb := ext_bd' (by omega) HD2.out i
      clear hX hX'
      by_cases hkm : i < n
      · obtain ⟨b2, o2, hA2, hb2, hcell2⟩ := h2 (by omega)
        have hne := HSP.out (by omega) _ hA2
        have y0 := hgr.cell (hcell2 i hkm) (by intro h; injection h with h; exact hne h)
        have hyb := HD2.out i hkm
        have hep : ext v n i = v i := ext_lt hkm
        obtain ⟨Y, hY⟩ := letter (v i)
        have hYb : 0 ≤ Y ∧ Y < 1000000000 := by omega
        unfold u32V at y0
        rw [← hY] at y0
        have HY := Lib.hid hY
        have hlt2 : b2 < wr.heap.size := Nat.lt_of_lt_of_le hb2 hgr.size
        subst hA2
        clear hcell2 hY hyb hne h2
        obtain ⟨x, hx⟩ : ∃ x : Nat, (x : Int) = (X + C + Y) % 1000000000 := ⟨((X + C + Y) % 1000000000).toNat, by omega⟩
        have hI2 := hI.step (by omega) (show offN (dl L) k i < 1000000000 from hxb0) hgb
        have hxe : (offN (dl L) k i + ext v n i + c) % 1000000000 = x := by rw [hep]; have := HX.out; have := HC.out; have := HY.out; omega
        have hcd : (X + C + Y) / 1000000000 = (((offN (dl L) k i + ext v n i + c) / 1000000000 : Nat) : Int) := by rw [hep]; have := HX.out; have := HC.out; have := HY.out; omega
        rw [hxe] at hI2
        have hset := hown.set (k + i) x
        unfold u32V at hset
        rw [hx] at hset
        have HS := Lib.hid hset
        have HI2 := Lib.hid hI2
        have HCD := Lib.hid hcd
        clear hx hep hI hset hI2 hxe hcd hgb hxb0
        go_wp2_with fail
        go_roundg (N - (i + 1))
        case measure => have := HR.out; omega
        case rel => exact ⟨i + 1, _, _, L'.set (k + i) x, by omega, rfl, by go_num, rfl, HCD.out, by rw [List.length_set]; exact HL.out, HS.out.1, fun j hj => by rw [dl_set (by rw [HL.out]; omega), updN_other _ (by omega)]; exact HF.out j (by omega), by rw [dl_set (by rw [HL.out]; omega), off_upd]; exact HI2.out, only_setCell hgr (.inl rfl) _⟩
      · have hep : ext v n i = 0 := ext_ge (by omega)
        obtain ⟨x, hx⟩ : ∃ x : Nat, (x : Int) = (X + C) % 1000000000 := ⟨((X + C) % 1000000000).toNat, by omega⟩
        have hI2 := hI.step (by omega) (show offN (dl L) k i < 1000000000 from hxb0) hgb
        have hxe : (offN (dl L) k i + ext v n i + c) % 1000000000 = x := by rw [hep]; have := HX.out; have := HC.out; omega
        have hcd : (X + C) / 1000000000 = (((offN (dl L) k i + ext v n i + c) / 1000000000 : Nat) : Int) := by rw [hep]; have := HX.out; have := HC.out; omega
        rw [hxe] at hI2
        have hset := hown.set (k + i) x
        unfold u32V at hset
        rw [hx] at hset
        have HS := Lib.hid hset
        have HI2 := Lib.hid hI2
        have HCD := Lib.hid hcd
        clear hx hep hI hset hI2 hxe hcd hgb hxb0
        go_wp2_with fail
        go_roundg (N - (i + 1))
        case measure => have := HR.out; omega
        case rel => exact ⟨i + 1, _, _, L'.set (k + i) x, by omega, rfl, by go_num, rfl, HCD.out, by rw [List.length_set]; exact HL.out, HS.out.1, fun j hj => by rw [dl_set (by rw [HL.out]; omega), updN_other _ (by omega)]; exact HF.out j (by omega), by rw [dl_set (by rw [HL.out]; omega), off_upd]; exact HI2.out, only_setCell hgr (.inl rfl) _⟩
    · obtain rfl : i = N := by omega
      have hNN := HN.out
      rw [← hNN] at hI
      have hF2 : ∀ j, j < k ∨ k + (n + 1) ≤ j → dl L' j = dl L j := by rw [hNN]; exact HF.out
      have HF2 := Lib.hid hF2
      clear hNN hF2
      go_wp2_with fail
      go_end0
      exact ⟨rfl, c, L', HL.out, hown, HF2.out, hI, hgr⟩
end Go.Proofs.YtpligjkbnlfhgaaDoor
