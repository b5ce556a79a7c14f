/- Long numbers: the reference's shifts. -/
import Derived.Test.YtpligjkbnlfhgaaDoorNatJ
namespace Go.Proofs.YtpligjkbnlfhgaaDoor
open Go.RowKit

theorem bits_or_disj {x c e : Nat} (hc : c < 2 ^ e) (h : x * 2 ^ e + c < 18446744073709551616) : bits .or .u64 ((x * 2 ^ e : Nat) : Int) (c : Int) = ((x * 2 ^ e + c : Nat) : Int) := by
  have h3 := Nat.shiftLeft_add_eq_or_of_lt hc x
  rw [Nat.shiftLeft_eq] at h3
  rw [bits_or_u64_nat _ _ (by omega) (by omega), h3]

set_option maxRecDepth 100000 in
set_option maxHeartbeats 2000000 in
theorem shift140 (K : Nat) (v1 : Value) (a N : Nat) (w : World) (hK : K ≤ 1048576) (s1 : Sm K a) (hN : N ≤ 1048576) (h1 : NatV 4294967296 w v1 a) :
    Calls Tryd.prog 140 #[v1, .int .i64 N] w fun e w' => ∃ v, e = .returned v ∧ NatN 4294967296 w.heap.size w' v (a * 2 ^ N) ∧ Below w.heap.size w w' := by
  obtain ⟨A1, n, c1, f, rfl, hc1, hm1, hr1, hd1, rfl⟩ := h1
  have l1 := s1.len (by omega) hd1
  have hn : n ≤ 1048576 := by omega
  have HD1 := Lib.hid hd1.1
  have hpw : (4294967296 : Nat) ^ (N / 32) * 2 ^ (N % 32) = 2 ^ N := by
    rw [show (4294967296 : Nat) = 2 ^ 32 from rfl, ← Nat.pow_mul, ← Nat.pow_add]; congr 1; omega
  rw [← hpw]
  have hS : N / 32 ≤ 32768 := by omega
  have hE : N % 32 < 32 := by omega
  obtain ⟨i0, hi, hz0, hz1, hz2⟩ := info_parts infoU
  have q1 : (N : Int) / 32 = ((N / 32 : Nat) : Int) := by omega
  have q2 : (N : Int) % 32 = ((N % 32 : Nat) : Int) := by omega
  generalize N / 32 = S at *
  generalize N % 32 = E at *
  clear hd1 s1 hm1 hpw
  go_enter Tryd.func140, Tryd.ntmps140
  go_wp2_with (at_make; refine wpList_make_full _ rfl _ _ 79 rfl w.heap.size 90 i0 (.int .u32 0) 1 Tryd.underlying79 hi hz0 hz1 .i64 .i64 _ _ S rfl rfl (by first | rfl | omega) (by first | rfl | omega) (by rw [hz2]; omega) (by unfold maxLen; omega) (Nat.le_refl _) ?_; intro w0 hown0 hgrow0)
  have hb0 : Below w.heap.size w w0 := (Below.refl _ _).grown hgrow0 (Nat.le_refl _) (fun q hq => by cases hq)
  have ho0 := OwnD.made (E := 90) hown0
  clear hown0 hgrow0
  go_wp2_with fail
  go_loopg [7, 5, 6, 8] n (fun r i v cc _ wr => ∃ (k c : Nat) (C : Int) (L : List Nat), k ≤ n ∧ r = n - k ∧ i = .int .i64 k ∧ cc = .int .u64 C ∧ C = c ∧ L.length = S + k ∧ OwnD 90 wr w.heap.size v L ∧ ShI 4294967296 f (dl L) S E k c ∧ Below w.heap.size w wr)
  case atStart => exact ⟨0, 0, 0, List.replicate S 0, Nat.zero_le _, rfl, rfl, rfl, rfl, by simp, ho0, ShI.start (by omega) (fun j hj => dl_replicate j hj), hb0⟩
  case round =>
    clear ho0 hb0
    obtain ⟨k, c, C, L, hk, hr, rfl, rfl, hC, hL, hown, hI, hb⟩ := hrel
    have hcb := hI.cb
    have hE2 : (2 : Nat) ^ E ≤ 2147483648 := by
      have : (2 : Nat) ^ E ≤ 2 ^ 31 := Nat.pow_le_pow_right (by omega) (by omega)
      simpa using this
    have hCb : 0 ≤ C ∧ C ≤ 2147483647 := by omega
    have HR := Lib.hid hr
    have HC := Lib.hid hC
    have HL := Lib.hid hL
    have hLk : L.length ≤ 1081344 := by omega
    clear hr hC hL
    have hHw : w.heap.size ≤ wr.heap.size := hb.size
    obtain ⟨A, cap, rfl, hcap, _⟩ := hown.shape
    by_cases hkn : k < n
    · obtain ⟨b1, o1, rfl, hb1, hcell1⟩ := hr1 (by omega)
      have x0 := hcell1 k (by omega)
      replace x0 : wr.cell? ⟨b1, o1 + k, none⟩ = some (u32V (f k)) := by rw [← x0]; exact hb.cell (p := ⟨b1, o1 + k, none⟩) hb1
      have hfb := HD1.out k hkn
      have hI2 := hI.step (by omega) hfb
      obtain ⟨F, hF⟩ := letter (f k)
      unfold u32V at x0
      rw [← hF] at x0
      have hFb : 0 ≤ F ∧ F ≤ 4294967295 := by omega
      have hlt : b1 < wr.heap.size := by omega
      have hbig : f k * 2 ^ E ≤ 4294967295 * 2147483648 := Nat.mul_le_mul (by omega) hE2
      obtain ⟨P, hP⟩ := letter (f k * 2 ^ E)
      obtain ⟨Z, hZ⟩ := letter (f k * 2 ^ E + c)
      have e0 : F * 2 ^ E = P := by rw [hF, hP, Int.natCast_mul]; rfl
      have e1 : IntKind.u64.wrap (F * 2 ^ E) = P := by rw [e0]; exact IntWalk.u64_in _ (by omega)
      have e2 : bits .or .u64 P C = Z := by rw [hP, HC.out, hZ]; exact bits_or_disj hcb (by omega)
      have e3 : IntKind.u32.wrap Z = Z % 4294967296 := IntKind.wrap_u32 _
      have hZb : 0 ≤ Z ∧ Z ≤ 18446744073709551615 := by omega
      have ed : Z % 4294967296 = ((f k * 2 ^ E + c) % 4294967296 : Nat) ∧ Z / 4294967296 = ((f k * 2 ^ E + c) / 4294967296 : Nat) := by rw [hZ]; omega
      have HE := Lib.hid ed
      clear hcell1 hr1 hI hF hP hZ e0 ed hbig hfb hE2 hcb
      go_wp2_with (at_builtin; refine wpList_append_lies _ (by rfl) (.tmp 29) (.tmp 32) 79 (by rfl) w.heap.size 90 i0 _ 1 4 Tryd.underlying79 hi hz0 hz1 hz2 rfl (by omega) _ _ _ (by rfl) (World.ownsRow.alloc hown _) ⟨wr.heap.size, 0, none⟩ 1 1 [.int .u32 (Z % 4294967296)] (by rfl) (by rfl) (World.news_of_block (heap_alloc_new wr _)) (by simp [Value.oneCell']) (by omega) (by unfold maxLen; omega) (by omega) (by simp; omega) (wr.heap.size + 1) (by simp) ?_; intro g' cap' w6 hown6 hgrow hat hlt6)
      rw [HE.out.1] at hown6
      have ho := OwnD.snoc (E := 90) hown6
      have hb6 : Below w.heap.size w w6 := (hb.alloc hb.size _).grown hgrow (by simp; omega) (fun q hq => (World.ownsRow.lt hown q hq).1)
      clear hown6 hgrow hat hown
      go_wp2_with fail
      go_roundg (n - (k + 1))
      case measure => have := HR.out; omega
      case rel => exact ⟨k + 1, _, _, L ++ [(f k * 2 ^ E + c) % 4294967296], by omega, rfl, by go_num, rfl, HE.out.2, by simp [HL.out]; omega, by simpa using ho, by rw [dl_snoc, HL.out]; exact hI2, hb6⟩
    · obtain rfl : k = n := by omega
      have hlast := hI.last (by omega)
      have e3 : IntKind.u32.wrap C = C := IntWalk.u32_in _ (by omega)
      have HLA := Lib.hid hlast
      clear hlast hI hr1 hcb hE2
      go_wp2_with (at_builtin; refine wpList_append_lies _ (by rfl) (.tmp 36) (.tmp 39) 79 (by rfl) w.heap.size 90 i0 _ 1 4 Tryd.underlying79 hi hz0 hz1 hz2 rfl (by omega) _ _ _ (by rfl) (World.ownsRow.alloc hown _) ⟨wr.heap.size, 0, none⟩ 1 1 [.int .u32 C] (by rfl) (by rfl) (World.news_of_block (heap_alloc_new wr _)) (by simp [Value.oneCell']) (by omega) (by unfold maxLen; omega) (by omega) (by simp; omega) (wr.heap.size + 1) (by simp) ?_; intro g' cap' w6 hown6 hgrow hat hlt6)
      rw [HC.out] at hown6
      have ho := OwnD.snoc (E := 90) hown6
      have hb6 : Below w.heap.size w w6 := (hb.alloc hb.size _).grown hgrow (by simp; omega) (fun q hq => (World.ownsRow.lt hown q hq).1)
      clear hown6 hgrow hat hown
      obtain ⟨A', cap2, hsh, hcp, hcm⟩ := ho.shape
      injection hsh with hA9 _ hsh
      subst hA9
      subst hsh
      have hrd := ho.rd.2
      rw [dl_snoc, HL.out, show (L ++ [c]).length = S + k + 1 by simp [HL.out]] at hrd
      have hcp' : S + k + 1 ≤ cap' := by have := HL.out; simp at hcp; omega
      rw [HL.out]
      refine (trim142 4294967296 (some ⟨g', 0, none⟩) (S + k + 1) cap' _ w6 hcp' hcm hrd HLA.out.2).mono ?_
      rintro e w7 ⟨v, rfl, hv, rfl⟩
      rw [HLA.out.1] at hv
      go_wp2_with fail
      go_ret
      exact ⟨.slice (some ⟨g', 0, none⟩) v cap', rfl, ⟨hv, fresh_at (World.ownsRow.lt ho g' rfl).1⟩, hb6⟩
end Go.Proofs.YtpligjkbnlfhgaaDoor
