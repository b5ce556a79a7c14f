/- Long numbers: a multiple is taken away from a part of a number; the divisor is added to it. -/
import Derived.Test.YtpligjkbnlfhgaaDoorNatO
import Derived.Test.YtpligjkbnlfhgaaDoorBig2
namespace Go.Proofs.YtpligjkbnlfhgaaDoor
open Go.RowKit

theorem off_upd {f : Nat → Nat} {k i x : Nat} : offN (updN f (k + i) x) k = updN (offN f k) i x := by
  funext j
  unfold offN
  by_cases h : j = i
  · subst h; rw [updN_same, updN_same]
  · rw [updN_other _ (by omega), updN_other _ h]

/-- What reduce leaves. -/
def RedPost (w : World) (G B k n Lr cap q : Nat) (L : List Nat) (v : Nat → Nat) (e : Ending) (w' : World) : Prop :=
  ∃ (b c : Nat) (L' : List Nat), e = .returned (.bool (decide (b = 0))) ∧ L'.length = Lr ∧ OwnD 90 w' B (.slice (some ⟨G, 0, none⟩) Lr cap) L' ∧ (∀ j, j < k ∨ k + (n + 1) ≤ j → dl L' j = dl L j) ∧
    RedI 1000000000 (offN (dl L) k) v n q (offN (dl L') k) (n + 1) c b ∧ w.grownBy w' (some G)

set_option maxRecDepth 100000 in
set_option maxHeartbeats 4000000 in
theorem reduce113 (G B k n Lr cap c1 c2 q : Nat) (A2 : Option Addr) (L : List Nat) (v : Nat → Nat) (w : World) (hown0 : OwnD 90 w B (.slice (some ⟨G, 0, none⟩) Lr cap) L) (hL0 : L.length = Lr) (hk : k + n + 1 ≤ Lr) (hLr : Lr ≤ 4194304)
    (hLd : ∀ j, j < Lr → dl L j < 1000000000) (h2 : RdD w A2 n v) (hd2 : ∀ j, j < n → v j < 1000000000) (hsep : 0 < n → ∀ ad, A2 = some ad → ad.block ≠ G) (hq : q ≤ 1000000000) :
    Calls Tryd.prog 113 #[.slice (some ⟨G, k, none⟩) (n + 1) c1, .slice A2 n c2, .int .u64 q] w (RedPost w G B k n Lr cap q L v) := by
  obtain ⟨Q, hQ⟩ := letter q
  rw [← hQ]
  have hQb : 0 ≤ Q ∧ Q ≤ 1000000000 := by omega
  have HQ := Lib.hid hQ
  have HD2 := Lib.hid hd2
  have HLD := Lib.hid hLd
  have HSP := Lib.hid hsep
  clear hQ hd2 hLd hsep
  have eN : (n : Int) + 1 = ((n + 1 : Nat) : Int) := rfl
  obtain ⟨N, hN⟩ : ∃ N, n + 1 = N := ⟨_, rfl⟩
  rw [hN]
  have hNb : N ≤ 4194304 := by omega
  have HN := Lib.hid hN
  clear eN hN
  go_enter Tryd.func113, Tryd.ntmps113
  go_wp2_with fail
  go_loopg [14, 7, 8, 9, 10, 11] N (fun m ii cc bw _ _ _ wr => ∃ (i c b : Nat) (C W : Int) (L' : List Nat), i ≤ N ∧ m = N - i ∧ ii = .int .i64 i ∧ cc = .int .u64 C ∧ C = c ∧ bw = .int .i64 W ∧ W = b ∧ L'.length = Lr ∧ OwnD 90 wr B (.slice (some ⟨G, 0, none⟩) Lr cap) L' ∧ (∀ j, j < k ∨ k + i ≤ j → dl L' j = dl L j) ∧
    RedI 1000000000 (offN (dl L) k) v n q (offN (dl L') k) i c b ∧ w.grownBy wr (some G))
  case atStart => exact ⟨0, 0, 0, 0, 0, L, Nat.zero_le _, rfl, rfl, rfl, rfl, rfl, rfl, hL0, hown0, fun _ _ => rfl, RedI.start, only_refl _ _⟩
  case round =>
    obtain ⟨i, c, b, C, W, L', hi, hr, rfl, rfl, hC, rfl, hW, hL, hown, hF, hI, hgr⟩ := hrel
    have hb1 := hI.b1
    have hc1 := hI.c_lt (by omega) HD2.out hq
    have hCb : 0 ≤ C ∧ C < 1000000000 := by omega
    have hWb : 0 ≤ W ∧ W ≤ 1 := by omega
    have HR := Lib.hid hr
    have HC := Lib.hid hC
    have HW := Lib.hid hW
    have HL := Lib.hid hL
    have HF := Lib.hid hF
    clear hr hC hW hL hF hown0
    by_cases hin : i < N
    · have hkL : k + i < Lr := by have := HN.out; omega
      obtain ⟨z0, z1, _, hlt0⟩ := hown.cell (k + i) (by rw [HL.out]; exact hkL)
      rw [HF.out (k + i) (by omega)] at z0
      obtain ⟨X, hX⟩ := letter (dl L (k + i))
      have hxb0 := HLD.out (k + i) hkL
      have hXb : 0 ≤ X ∧ X < 1000000000 := by omega
      unfold u32V at z0
      rw [← hX] at z0
      have hX' : X = ((offN (dl L) k i : Nat) : Int) := hX
      have HX := Lib.hid hX'
      clear hX hX' hxb0
      by_cases hkm : i < n
      · obtain ⟨b2, o2, hA2, hb2, hcell2⟩ := h2 (by omega)
        have hne := HSP.out (by omega) _ hA2
        have y0 := hgr.cell (hcell2 i hkm) (by intro h; injection h with h; exact hne h)
        have hyb := HD2.out i hkm
        have heg : ext v n i = v i := ext_lt hkm
        obtain ⟨Y, hY⟩ := letter (v i)
        have hYb : 0 ≤ Y ∧ Y < 1000000000 := by omega
        unfold u32V at y0
        rw [← hY] at y0
        have hlt2 : b2 < wr.heap.size := Nat.lt_of_lt_of_le hb2 hgr.size
        have hp : 0 ≤ Q * Y ∧ Q * Y ≤ 1000000000 * 999999999 := ⟨Int.mul_nonneg hQb.1 hYb.1, Int.mul_le_mul hQb.2 (by omega) hYb.1 (by omega)⟩
        obtain ⟨P, hP⟩ : ∃ P : Int, Q * Y = P := ⟨_, rfl⟩
        rw [hP] at hp
        have hPn : P = ((q * v i : Nat) : Int) := by rw [← hP, HQ.out, hY, Int.natCast_mul]
        obtain ⟨S, hS⟩ : ∃ S : Int, C + P = S := ⟨_, rfl⟩
        have e1 : IntKind.u64.wrap (Q * Y) = P := by rw [hP]; exact IntWalk.u64_in _ (by omega)
        have e2 : IntKind.u64.wrap (C + P) = S := by rw [hS]; exact IntWalk.u64_in _ (by omega)
        have hSb : 0 ≤ S ∧ S ≤ 1000000000000000000 := by omega
        obtain ⟨s, hs⟩ : ∃ s : Nat, c + q * v i = s := ⟨_, rfl⟩
        have hep : c + q * ext v n i = s := by rw [heg, hs]
        have hSn : S = (s : Int) := by have := HC.out; omega
        have hSd : S / 1000000000 = ((s / 1000000000 : Nat) : Int) := by omega
        have HSn := Lib.hid hSn
        have HSd := Lib.hid hSd
        subst hA2
        clear hcell2 hY hyb heg hP hPn hS hSn hSd hs hne h2
        by_cases hneg : X - S % 1000000000 - W < 0
        · have dn : decide (X - S % 1000000000 - W < 0) = true := by simpa using hneg
          obtain ⟨x, hx⟩ : ∃ x : Nat, (x : Int) = X - S % 1000000000 - W + 1000000000 := ⟨(X - S % 1000000000 - W + 1000000000).toNat, by omega⟩
          have hxb : x < 1000000000 := by omega
          have hI2 := hI.step (x := x) (b' := 1) (by omega) hxb (by omega) (by rw [hep]; have := HX.out; have := HC.out; have := HW.out; have := HSn.out; show _ = offN (dl L) k i + _; omega)
          rw [hep] at hI2
          have hset := hown.set (k + i) x
          unfold u32V at hset
          rw [hx] at hset
          have ew : IntKind.u32.wrap (X - S % 1000000000 - W + 1000000000) = X - S % 1000000000 - W + 1000000000 := IntWalk.u32_in _ (by omega)
          have HS := Lib.hid hset
          have HI2 := Lib.hid hI2
          clear hx hep hI hset hI2
          go_wp2_with fail
          go_roundg (N - (i + 1))
          case measure => have := HR.out; omega
          case rel => exact ⟨i + 1, _, 1, _, 1, L'.set (k + i) x, by omega, rfl, by go_num, rfl, HSd.out, rfl, rfl, by rw [List.length_set]; exact HL.out, HS.out.1, fun j hj => by rw [dl_set (by rw [HL.out]; omega), updN_other _ (by omega)]; exact HF.out j (by omega), by rw [dl_set (by rw [HL.out]; omega), off_upd]; exact HI2.out, only_setCell hgr (.inl rfl) _⟩
        · have dn : decide (X - S % 1000000000 - W < 0) = false := by simpa using hneg
          obtain ⟨x, hx⟩ : ∃ x : Nat, (x : Int) = X - S % 1000000000 - W := ⟨(X - S % 1000000000 - W).toNat, by omega⟩
          have hxb : x < 1000000000 := by omega
          have hI2 := hI.step (x := x) (b' := 0) (by omega) hxb (by omega) (by rw [hep]; have := HX.out; have := HC.out; have := HW.out; have := HSn.out; show _ = offN (dl L) k i + _; omega)
          rw [hep] at hI2
          have hset := hown.set (k + i) x
          unfold u32V at hset
          rw [hx] at hset
          have ew : IntKind.u32.wrap (X - S % 1000000000 - W) = X - S % 1000000000 - W := IntWalk.u32_in _ (by omega)
          have HS := Lib.hid hset
          have HI2 := Lib.hid hI2
          clear hx hep hI hset hI2
          go_wp2_with fail
          go_roundg (N - (i + 1))
          case measure => have := HR.out; omega
          case rel => exact ⟨i + 1, _, 0, _, 0, L'.set (k + i) x, by omega, rfl, by go_num, rfl, HSd.out, rfl, rfl, by rw [List.length_set]; exact HL.out, HS.out.1, fun j hj => by rw [dl_set (by rw [HL.out]; omega), updN_other _ (by omega)]; exact HF.out j (by omega), by rw [dl_set (by rw [HL.out]; omega), off_upd]; exact HI2.out, only_setCell hgr (.inl rfl) _⟩
      · have hep : c + q * ext v n i = c := by rw [ext_ge (by omega), Nat.mul_zero, Nat.add_zero]
        have em : C % 1000000000 = C := by omega
        have hCd : C / 1000000000 = ((c / 1000000000 : Nat) : Int) := by have := HC.out; omega
        have HCd := Lib.hid hCd
        have ecm : c % 1000000000 = c := Nat.mod_eq_of_lt hc1
        clear hCd
        by_cases hneg : X - C - W < 0
        · have dn : decide (X - C - W < 0) = true := by simpa using hneg
          obtain ⟨x, hx⟩ : ∃ x : Nat, (x : Int) = X - C - W + 1000000000 := ⟨(X - C - W + 1000000000).toNat, by omega⟩
          have hxb : x < 1000000000 := by omega
          have hI2 := hI.step (x := x) (b' := 1) (by omega) hxb (by omega) (by rw [hep]; have := HX.out; have := HC.out; have := HW.out; show _ = offN (dl L) k i + _; omega)
          rw [hep] at hI2
          have hset := hown.set (k + i) x
          unfold u32V at hset
          rw [hx] at hset
          have ew : IntKind.u32.wrap (X - C - W + 1000000000) = X - C - W + 1000000000 := IntWalk.u32_in _ (by omega)
          have HS := Lib.hid hset
          have HI2 := Lib.hid hI2
          clear hx hep hI hset hI2
          go_wp2_with fail
          go_roundg (N - (i + 1))
          case measure => have := HR.out; omega
          case rel => exact ⟨i + 1, _, 1, _, 1, L'.set (k + i) x, by omega, rfl, by go_num, rfl, HCd.out, rfl, rfl, by rw [List.length_set]; exact HL.out, HS.out.1, fun j hj => by rw [dl_set (by rw [HL.out]; omega), updN_other _ (by omega)]; exact HF.out j (by omega), by rw [dl_set (by rw [HL.out]; omega), off_upd]; exact HI2.out, only_setCell hgr (.inl rfl) _⟩
        · have dn : decide (X - C - W < 0) = false := by simpa using hneg
          obtain ⟨x, hx⟩ : ∃ x : Nat, (x : Int) = X - C - W := ⟨(X - C - W).toNat, by omega⟩
          have hxb : x < 1000000000 := by omega
          have hI2 := hI.step (x := x) (b' := 0) (by omega) hxb (by omega) (by rw [hep]; have := HX.out; have := HC.out; have := HW.out; show _ = offN (dl L) k i + _; omega)
          rw [hep] at hI2
          have hset := hown.set (k + i) x
          unfold u32V at hset
          rw [hx] at hset
          have ew : IntKind.u32.wrap (X - C - W) = X - C - W := IntWalk.u32_in _ (by omega)
          have HS := Lib.hid hset
          have HI2 := Lib.hid hI2
          clear hx hep hI hset hI2
          go_wp2_with fail
          go_roundg (N - (i + 1))
          case measure => have := HR.out; omega
          case rel => exact ⟨i + 1, _, 0, _, 0, L'.set (k + i) x, by omega, rfl, by go_num, rfl, HCd.out, rfl, rfl, by rw [List.length_set]; exact HL.out, HS.out.1, fun j hj => by rw [dl_set (by rw [HL.out]; omega), updN_other _ (by omega)]; exact HF.out j (by omega), by rw [dl_set (by rw [HL.out]; omega), off_upd]; exact HI2.out, only_setCell hgr (.inl rfl) _⟩
    · obtain rfl : i = N := by omega
      have hbw : decide (b = 0) = (W == 0) := by
        have := HW.out
        by_cases h : b = 0
        · have : W = 0 := by omega
          simp [h, this]
        · have : W ≠ 0 := by omega
          simp [h, this]
      have HBW := Lib.hid hbw
      have hNN := HN.out
      rw [← hNN] at hI
      have hF2 : ∀ j, j < k ∨ k + (n + 1) ≤ j → dl L' j = dl L j := by rw [hNN]; exact HF.out
      have HF2 := Lib.hid hF2
      clear hbw hNN hF2
      go_wp2_with fail
      go_ret
      exact ⟨b, c, L', by rw [HBW.out]; rfl, HL.out, hown, HF2.out, hI, hgr⟩
end Go.Proofs.YtpligjkbnlfhgaaDoor
