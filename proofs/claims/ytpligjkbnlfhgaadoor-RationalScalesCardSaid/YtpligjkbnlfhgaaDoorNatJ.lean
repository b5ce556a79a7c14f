/- Long numbers: the reference's halves, shifts, bits. -/
import Derived.Test.YtpligjkbnlfhgaaDoorNatI
import Derived.Test.YtpligjkbnlfhgaaDoorBig3
import Derived.Deep.RegionWith
import Derived.StillTailTactics
namespace Go.Proofs.YtpligjkbnlfhgaaDoor
open Go.RowKit

theorem bits_or_u32_nat (a b : Nat) (ha : a < 4294967296) (hb : b < 4294967296) : bits .or .u32 (a : Int) (b : Int) = ((a ||| b : Nat) : Int) := by
  have hx : a ||| b < 2 ^ 32 := Nat.or_lt_two_pow (by omega) (by omega)
  have h1 : (BitVec.ofInt 32 (a : Int)).toNat = a := by
    rw [BitVec.ofInt_natCast, BitVec.toNat_ofNat]; exact Nat.mod_eq_of_lt (by omega)
  have h2 : (BitVec.ofInt 32 (b : Int)).toNat = b := by
    rw [BitVec.ofInt_natCast, BitVec.toNat_ofNat]; exact Nat.mod_eq_of_lt (by omega)
  show IntKind.u32.wrap ((BitVec.ofInt 32 (a : Int) ||| BitVec.ofInt 32 (b : Int)).toNat : Int) = _
  rw [BitVec.toNat_or, h1, h2, IntKind.wrap_u32]
  omega
theorem half_or {x y : Nat} (hx : x < 4294967296) : bits .or .u32 ((x : Int) / 2) (((y : Int) * 2147483648) % 4294967296) = ((x / 2 + y % 2 * 2147483648 : Nat) : Int) := by
  have h2 : x / 2 < 2 ^ 31 := by omega
  have h3 := Nat.shiftLeft_add_eq_or_of_lt h2 (y % 2)
  rw [Nat.shiftLeft_eq, show (2 : Nat) ^ 31 = 2147483648 from rfl, Nat.or_comm] at h3
  have h4 := bits_or_u32_nat (x / 2) (y % 2 * 2147483648) (by omega) (by omega)
  rw [← h3] at h4
  rw [show (x : Int) / 2 = ((x / 2 : Nat) : Int) by omega, show (y : Int) * 2147483648 % 4294967296 = ((y % 2 * 2147483648 : Nat) : Int) by omega, h4, Nat.add_comm]

set_option maxRecDepth 100000 in
set_option maxHeartbeats 2000000 in
theorem half141 (K : Nat) (v1 : Value) (a : Nat) (w : World) (hK : K ≤ 1048576) (s1 : Sm K a) (h1 : NatV 4294967296 w v1 a) :
    Calls Tryd.prog 141 #[v1] w fun e w' => ∃ v, e = .returned v ∧ NatN 4294967296 w.heap.size w' v (a / 2) ∧ Below w.heap.size w w' := by
  obtain ⟨A1, n, c1, f, rfl, hc1, hm1, hr1, hd1, rfl⟩ := h1
  have l1 := s1.len (by omega) hd1
  have hn : n ≤ 1048576 := by omega
  have HD1 := Lib.hid hd1.1
  clear hd1 s1 hm1
  obtain ⟨i0, hi, hz0, hz1, hz2⟩ := info_parts infoU
  go_enter Tryd.func141, Tryd.ntmps141
  go_wp2_with (at_make; refine wpList_make_full _ rfl _ _ 79 rfl w.heap.size 90 i0 (.int .u32 0) 1 Tryd.underlying79 hi hz0 hz1 .i64 .i64 _ _ n rfl rfl (by first | rfl | omega) (by first | rfl | omega) (by rw [hz2]; omega) (by unfold maxLen; omega) (Nat.le_refl _) ?_; intro w0 hown0 hgrow0)
  have hb0 : Below w.heap.size w w0 := (Below.refl _ _).grown hgrow0 (Nat.le_refl _) (fun q hq => by cases hq)
  have ho0 := OwnD.made (E := 90) hown0
  clear hown0 hgrow0
  go_wp2_with fail
  go_loopg [4] n (fun r i wr => ∃ (k : Nat) (L : List Nat), k ≤ n ∧ r = n - k ∧ i = .int .i64 k ∧ L.length = n ∧ OwnD 90 wr w.heap.size (.slice (some ⟨w.heap.size, 0, none⟩) n n) L ∧ (0 < n → HalfI (2 * 2147483648) f (dl L) n k) ∧ Below w.heap.size w wr)
  case atStart => exact ⟨0, List.replicate n 0, Nat.zero_le _, rfl, rfl, by simp, ho0, fun h => HalfI.start h, hb0⟩
  case round =>
    clear ho0 hb0
    obtain ⟨k, L, hk, hr, rfl, hL, hown, hI, hb⟩ := hrel
    have HR := Lib.hid hr
    have HL := Lib.hid hL
    clear hr hL
    have hHw : w.heap.size ≤ wr.heap.size := hb.size
    by_cases hkn : k < n
    · obtain ⟨z0, z1, _, hlt0⟩ := hown.cell k (by rw [HL.out]; exact hkn)
      obtain ⟨b1, o1, hA, hb1, hcell1⟩ := hr1 (by omega)
      have x0 := hcell1 k (by omega)
      replace x0 : wr.cell? ⟨b1, o1 + k, none⟩ = some (u32V (f k)) := by rw [← x0]; exact hb.cell (p := ⟨b1, o1 + k, none⟩) hb1
      have hfb := HD1.out k hkn
      have hgb := ext_bd' (by omega) HD1.out (k + 1)
      obtain ⟨hI2, hxb⟩ := (hI (by omega)).step hkn hfb
      have g2 := fun wx hrx => digit143 A1 n c1 (k + 1) f wx (by unfold maxLen; omega) hrx HD1.out (by unfold maxLen; omega)
      obtain ⟨F, hF⟩ := letter (f k)
      obtain ⟨G, hG⟩ := letter (ext f n (k + 1))
      unfold u32V at x0
      rw [← hF] at x0
      rw [← hG] at g2
      have hFb : 0 ≤ F ∧ F ≤ 4294967295 := by omega
      have hGb : 0 ≤ G ∧ G ≤ 4294967295 := by omega
      have hrd : RdD wr.drew A1 n f := hr1.below hb.drew
      subst hA
      have ek : ((k + 1 : Nat) : Int) = (k : Int) + 1 := by omega
      rw [ek] at g2
      clear ek
      have i1 : IntKind.i64.wrap ((k : Int) + 1) = (k : Int) + 1 := IntWalk.i64_in _ (by omega)
      have i2 : IntKind.u64.wrap (G * 2147483648) = G * 2147483648 := IntWalk.u64_in _ (by omega)
      have i3 : IntKind.u32.wrap (G * 2147483648) = (G * 2147483648) % 4294967296 := IntKind.wrap_u32 _
      have i4 : bits .or .u32 (F / 2) ((G * 2147483648) % 4294967296) = ((f k / 2 + ext f n (k + 1) % 2 * 2147483648 : Nat) : Int) := by rw [hF, hG]; exact half_or (by omega)
      obtain ⟨Z, hZ⟩ := letter (f k / 2 + ext f n (k + 1) % 2 * 2147483648)
      rw [← hZ] at i4
      have hset := hown.set k (f k / 2 + ext f n (k + 1) % 2 * 2147483648)
      unfold u32V at hset
      rw [← hZ] at hset
      have HS := Lib.hid hset
      have G2 := Lib.hid g2
      clear hset hZ
      have HF := Lib.hid hF
      have HG := Lib.hid hG
      have HRD := Lib.hid hrd
      have hlt : b1 < wr.heap.size := by omega
      clear g2 hF hG hr1 hcell1 hI hrd hfb hgb
      go_wp2_with fail
      go_region_with (go_at_call 143; with_reducible refine (G2.out _ HRD.out).mono ?_; rintro e _ ⟨rfl, rfl⟩)
      all_goals
        go_wp2_with fail
        go_roundg (n - (k + 1))
        case measure => have := HR.out; omega
        case rel => exact ⟨k + 1, L.set k (f k / 2 + ext f n (k + 1) % 2 * 2147483648), by omega, rfl, by go_num, by rw [List.length_set]; exact HL.out, HS.out.1.drewN 1, fun _ => by rw [dl_set (by rw [HL.out]; exact hkn)]; exact hI2, (hb.setCell (Nat.le_refl _) _).drew⟩
    · obtain rfl : k = n := by omega
      obtain ⟨hn2, hrd⟩ := hown.rd
      rw [HL.out] at hrd
      have hval : nv 4294967296 (dl L) k = nv 4294967296 f k / 2 := by
        by_cases h0 : k = 0
        · subst h0; simp [nv]
        · exact (hI (by omega)).done (by omega)
      have hlt : ∀ i, i < k → dl L i < 4294967296 := fun i hi => (hI (by omega)).lt i hi
      have HV := Lib.hid hval
      clear hI hn2 hval
      go_wp2_with fail
      refine (trim142 4294967296 _ k k _ wr (Nat.le_refl _) (by unfold maxLen; omega) hrd hlt).mono ?_
      rintro e w7 ⟨v, rfl, hv, rfl⟩
      rw [HV.out] at hv
      go_wp2_with fail
      go_ret
      exact ⟨_, rfl, ⟨hv, fresh_at (Nat.le_refl _)⟩, hb⟩
end Go.Proofs.YtpligjkbnlfhgaaDoor
