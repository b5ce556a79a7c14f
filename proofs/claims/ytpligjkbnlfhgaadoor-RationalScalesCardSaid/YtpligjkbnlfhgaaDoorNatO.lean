/- Long numbers: the program's division by a digit. -/
import Derived.Test.YtpligjkbnlfhgaaDoorNatM
import Derived.BigRegion
namespace Go.Proofs.YtpligjkbnlfhgaaDoor
open Go.RowKit

set_option maxRecDepth 100000 in
set_option maxHeartbeats 4000000 in
theorem small111 (K : Nat) (v1 : Value) (a d : Nat) (w : World) (hK : K ≤ 1048576) (s1 : Sm K a) (hd0 : 0 < d) (hd : d < 1000000000) (h1 : NatV 1000000000 w v1 a) :
    Calls Tryd.prog 111 #[v1, .int .u32 d] w fun e w' => ∃ q r, e = .returned (.tuple #[q, r]) ∧ NatV 1000000000 w' q (a / d) ∧ NatV 1000000000 w' r (a % d) ∧ Below w.heap.size w w' := by
  obtain ⟨A1, n, c1, f, rfl, hc1, hm1, hr1, hd1, rfl⟩ := h1
  have l1 := s1.len (by omega) hd1
  have hn : n ≤ 1048576 := by omega
  have HD1 := Lib.hid hd1.1
  obtain ⟨D, hD⟩ := letter d
  rw [← hD]
  have hDb : 0 < D ∧ D < 1000000000 := by omega
  have HD := Lib.hid hD
  clear hd1 s1 hm1 hD
  obtain ⟨i0, hi, hz0, hz1, hz2⟩ := info_parts infoU
  go_enter Tryd.func111, Tryd.ntmps111
  go_wp2_with (at_make; refine wpList_make_full _ rfl _ _ 80 rfl w.heap.size 90 i0 (.int .u32 0) 1 Tryd.underlying80 hi hz0 hz1 .i64 .i64 _ _ n rfl rfl (by first | rfl | omega) (by first | rfl | omega) (by rw [hz2]; omega) (by unfold maxLen; omega) (Nat.le_refl _) ?_; intro w0 hown0 hgrow0)
  have hb0 : Below w.heap.size w w0 := (Below.refl _ _).grown hgrow0 (Nat.le_refl _) (fun q hq => by cases hq)
  have ho0 := OwnD.made (E := 90) hown0
  clear hown0 hgrow0
  go_wp2_with fail
  go_loopg [8, 7, 9] n (fun m i rr _ wr => ∃ (t r : Nat) (R : Int) (L : List Nat), t ≤ n ∧ m = t ∧ i = .int .i64 ((t : Int) - 1) ∧ rr = .int .u64 R ∧ R = r ∧ L.length = n ∧ OwnD 90 wr w.heap.size (.slice (some ⟨w.heap.size, 0, none⟩) n n) L ∧ SmlI 1000000000 f (dl L) n d t r ∧ Below w.heap.size w wr)
  case atStart => exact ⟨n, 0, 0, List.replicate n 0, Nat.le_refl _, rfl, rfl, rfl, rfl, by simp, ho0, SmlI.start (by omega) hd0 (fun j hj => dl_replicate j hj), hb0⟩
  case round =>
    clear ho0 hb0
    obtain ⟨t, r, R, L, ht, hm, rfl, rfl, hR, hL, hown, hI, hb⟩ := hrel
    have hr1' := hI.r1
    have hRb : 0 ≤ R ∧ R < 1000000000 := by omega
    have HM := Lib.hid hm
    have HR := Lib.hid hR
    have HL := Lib.hid hL
    clear hm hR hL
    have hHw : w.heap.size ≤ wr.heap.size := hb.size
    cases t with
    | zero =>
      obtain ⟨k1, k2⟩ := hI.done
      have hlt := hI.lt
      have K1 := Lib.hid k1
      have K2 := Lib.hid k2
      obtain ⟨hn2, hrd⟩ := hown.rd
      rw [HL.out] at hrd
      clear hI k1 k2 hn2
      go_wp2_with fail
      refine (trim115 1000000000 _ n n _ wr (Nat.le_refl _) (by unfold maxLen; omega) hrd hlt).mono ?_
      rintro e w7 ⟨v, rfl, hv, rfl⟩
      rw [K1.out] at hv
      have hnat := natOf62 r wr (by omega)
      rw [← HR.out] at hnat
      go_wp2_with fail
      refine hnat.mono ?_
      rintro e w8 ⟨v2, rfl, hv2, hb8⟩
      rw [K2.out] at hv2
      have hv' := hv.below hb8
      have hbw := below_trans' hb hb.size hb8
      clear hv hb8 hb
      go_wp2_with fail
      go_ret2
      exact ⟨_, _, rfl, hv', hv2, hbw⟩
    | succ t =>
      have ei : ((t + 1 : Nat) : Int) - 1 = (t : Int) := by omega
      rw [ei]
      obtain ⟨z0, z1, _, hlt0⟩ := hown.cell t (by rw [HL.out]; omega)
      obtain ⟨b1, o1, rfl, hb1, hcell1⟩ := hr1 (by omega)
      have x0 := hcell1 t (by omega)
      replace x0 : wr.cell? ⟨b1, o1 + t, none⟩ = some (u32V (f t)) := by rw [← x0]; exact hb.cell (p := ⟨b1, o1 + t, none⟩) hb1
      have hxb := HD1.out t (by omega)
      obtain ⟨hI2, hqb⟩ := hI.step (by omega) (by omega) hxb
      obtain ⟨F, hF⟩ := letter (f t)
      obtain ⟨Q, hQ⟩ := letter ((r * 1000000000 + f t) / d)
      obtain ⟨R', hR'⟩ := letter ((r * 1000000000 + f t) % d)
      unfold u32V at x0 z0
      rw [← hF] at x0
      have hFb : 0 ≤ F ∧ F < 1000000000 := by omega
      obtain ⟨S, hS⟩ : ∃ S : Int, R * 1000000000 + F = S := ⟨_, rfl⟩
      have hSn : S = ((r * 1000000000 + f t : Nat) : Int) := by have := HR.out; omega
      have e1 : IntKind.u64.wrap (R * 1000000000) = R * 1000000000 := IntWalk.u64_in _ (by omega)
      have e2 : IntKind.u64.wrap (R * 1000000000 + F) = S := by rw [hS]; exact IntWalk.u64_in _ (by omega)
      have hSb : 0 ≤ S ∧ S < 1000000000000000000 := by omega
      have e3 : S / D = Q := by rw [hSn, HD.out, hQ, Int.natCast_ediv]
      have e4 : S % D = R' := by rw [hSn, HD.out, hR', Int.natCast_emod]
      have e5 : S.tdiv D = Q := by rw [Int.tdiv_eq_ediv_of_nonneg hSb.1, e3]
      have e6 : S.tmod D = R' := by rw [Int.tmod_eq_emod_of_nonneg hSb.1, e4]
      have hQb : 0 ≤ Q ∧ Q < 1000000000 := by
        rw [hQ]
        clear hI hI2
        generalize (r * 1000000000 + f t) / d = q at hqb ⊢
        omega
      have hRb' : 0 ≤ R' ∧ R' < 1000000000 := by
        have : (r * 1000000000 + f t) % d < 1000000000 := Nat.lt_trans (Nat.mod_lt _ hd0) hd
        rw [hR']
        clear hI hI2
        generalize (r * 1000000000 + f t) % d = q at this ⊢
        omega
      have ew : IntKind.u32.wrap Q = Q := IntWalk.u32_in _ (by omega)
      have hset := hown.set t ((r * 1000000000 + f t) / d)
      unfold u32V at hset
      rw [← hQ] at hset
      have HS := Lib.hid hset
      have HR' := Lib.hid hR'
      have hlt : b1 < wr.heap.size := by omega
      have dne : D ≠ 0 := by omega
      clear hF hQ hS hSn hset hI hR' hqb hxb hr1 hcell1 ei hr1'
      go_wp2_with fail
      go_region
      go_wp2_with fail
      go_roundg t
      case measure => have := HM.out; omega
      case rel => exact ⟨t, _, _, L.set t ((r * 1000000000 + f t) / d), by omega, rfl, by go_num, rfl, HR'.out, by rw [List.length_set]; exact HL.out, HS.out.1.drewN 1, by rw [dl_set (by rw [HL.out]; omega)]; exact hI2, (hb.setCell (Nat.le_refl _) _).drew⟩
end Go.Proofs.YtpligjkbnlfhgaaDoor
