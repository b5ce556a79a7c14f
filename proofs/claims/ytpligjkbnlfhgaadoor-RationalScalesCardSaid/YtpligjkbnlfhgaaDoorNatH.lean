/- Long numbers: the reference's sums and differences. -/
import Derived.Test.YtpligjkbnlfhgaaDoorNatG
namespace Go.Proofs.YtpligjkbnlfhgaaDoor
open Go.RowKit

theorem ext_bd' {B : Nat} {v : Nat → Nat} {n : Nat} (hB : 0 < B) (hv : ∀ j, j < n → v j < B) (i : Nat) : ext v n i < B := by
  unfold ext; split
  · exact hv i (by assumption)
  · exact hB

set_option maxRecDepth 100000 in
set_option maxHeartbeats 4000000 in
theorem plus121 (K : Nat) (v1 v2 : Value) (a b : Nat) (w : World) (hK : K ≤ 1048576) (s1 : Sm K a) (s2 : Sm K b) (h1 : NatV 4294967296 w v1 a) (h2 : NatV 4294967296 w v2 b) :
    Calls Tryd.prog 121 #[v1, v2] w fun e w' => ∃ v, e = .returned v ∧ NatV 4294967296 w' v (a + b) ∧ Below w.heap.size w w' := by
  obtain ⟨A1, n, c1, f, rfl, hc1, hm1, hr1, hd1, rfl⟩ := h1
  obtain ⟨A2, m, c2, g, rfl, hc2, hm2, hr2, hd2, rfl⟩ := h2
  have l1 := s1.len (by omega) hd1
  have l2 := s2.len (by omega) hd2
  have hn : n ≤ 1048576 := by omega
  have hm : m ≤ 1048576 := by omega
  have HD1 := Lib.hid hd1.1
  have HD2 := Lib.hid hd2.1
  have hmx : n ≤ max n m ∧ m ≤ max n m ∧ max n m ≤ 1048576 := by omega
  obtain ⟨M, hM⟩ : ∃ M, max n m = M := ⟨_, rfl⟩
  rw [hM] at hmx
  have HM := Lib.hid hM
  clear hd1 hd2 s1 s2 hm1 hm2 hc1 hc2 l1 l2 hK hM
  obtain ⟨i0, hi, hz0, hz1, hz2⟩ := info_parts infoU
  go_enter Tryd.func121, Tryd.ntmps121
  go_wp2_with fail
  go_loopg [7, 5, 6, 8] (M + 1) (fun r i v cc _ wr => ∃ (k c : Nat) (C : Int) (L : List Nat), k ≤ M + 1 ∧ (c = 1 → k ≤ M) ∧ r = M + 1 - k ∧ i = .int .i64 k ∧ cc = .int .u64 C ∧ C = c ∧ L.length = k ∧ OwnD 90 wr w.heap.size v L ∧ AddI 4294967296 (ext f n) (ext g m) (dl L) k c ∧ Below w.heap.size w wr)
  case atStart => exact ⟨0, 0, 0, [], Nat.zero_le _, fun h => by omega, rfl, rfl, rfl, rfl, rfl, OwnD.nil, AddI.zero, Below.refl _ _⟩
  case round =>
    obtain ⟨k, c, C, L, hk, hck, hr, rfl, rfl, hC, hL, hown, hI, hb⟩ := hrel
    have hc1 := hI.c1
    have hCb : 0 ≤ C ∧ C ≤ 1 := by omega
    have HR := Lib.hid hr
    have HC := Lib.hid hC
    have HL := Lib.hid hL
    have hLk : L.length ≤ 1048577 := by omega
    clear hr hC hL
    have hHw : w.heap.size ≤ wr.heap.size := hb.size
    obtain ⟨A, cap, rfl, hcap, _⟩ := hown.shape
    by_cases hgo : k < n ∨ k < m ∨ C = 1
    · have hkM : k ≤ M := by rcases hgo with h | h | h <;> first | omega | exact hck (by have := HC.out; omega)
      have g1 := digit143 A1 n c1 k f wr (by unfold maxLen; omega) (hr1.below hb) HD1.out (by unfold maxLen; omega)
      have g2 := digit143 A2 m c2 k g wr (by unfold maxLen; omega) (hr2.below hb) HD2.out (by unfold maxLen; omega)
      have hfb := ext_bd' (by omega) HD1.out k
      have hgb := ext_bd' (by omega) HD2.out k
      have hI2 := hI.step (by omega) hfb hgb
      have hlast : (ext f n k + ext g m k + c) / 4294967296 = 1 → k + 1 ≤ M := fun h => by
        refine Decidable.byContradiction fun hc => ?_
        have e1 : ext f n k = 0 := ext_ge (by omega)
        have e2 : ext g m k = 0 := ext_ge (by omega)
        rw [e1, e2] at h
        omega
      obtain ⟨F, hF⟩ := letter (ext f n k)
      obtain ⟨G, hG⟩ := letter (ext g m k)
      rw [← hF] at g1
      rw [← hG] at g2
      have hFb : 0 ≤ F ∧ F ≤ 4294967295 := by omega
      have hGb : 0 ≤ G ∧ G ≤ 4294967295 := by omega
      have ed : (F + G + C) % 4294967296 = ((ext f n k + ext g m k + c) % 4294967296 : Nat) ∧ (F + G + C) / 4294967296 = ((ext f n k + ext g m k + c) / 4294967296 : Nat) := by have := HC.out; omega
      have HE := Lib.hid ed
      have G1 := Lib.hid g1
      have G2 := Lib.hid g2
      have HLa := Lib.hid hlast
      have ew : IntKind.u32.wrap (F + G + C) = (F + G + C) % 4294967296 := IntKind.wrap_u32 _
      have hgo' := Lib.hid hgo
      clear ed g1 g2 hlast hF hG hI hfb hgb hr1 hr2 hck hgo
      by_cases q1 : k < n
      · have t1 : decide (k < n) = true := by simpa using q1
        clear q1
        go_wp2_with fail
        refine G1.out.mono ?_
        rintro e _ ⟨rfl, rfl⟩
        go_wp2_with fail
        refine G2.out.mono ?_
        rintro e _ ⟨rfl, rfl⟩
        go_wp2_with (at_builtin; refine wpList_append_lies _ (by rfl) (.tmp 34) (.tmp 37) 79 (by rfl) w.heap.size 90 i0 _ 1 4 Tryd.underlying79 hi hz0 hz1 hz2 rfl (by omega) _ _ _ (by rfl) (World.ownsRow.alloc hown _) ⟨wr.heap.size, 0, none⟩ 1 1 [.int .u32 ((F + G + C) % 4294967296)] (by rfl) (by rfl) (World.news_of_block (heap_alloc_new wr _)) (by simp [Value.oneCell']) (by omega) (by unfold maxLen; omega) (by omega) (by simp; omega) (wr.heap.size + 1) (by simp) ?_; intro g' cap' w6 hown6 hgrow hat hlt6)
        rw [HE.out.1] at hown6
        have ho := OwnD.snoc (E := 90) hown6
        have hb6 : Below w.heap.size w w6 := (hb.alloc hb.size _).grown hgrow (by simp; omega) (fun q hq => (World.ownsRow.lt hown q hq).1)
        clear hown6 hgrow hat hown
        go_wp2_with fail
        go_roundg (M + 1 - (k + 1))
        case measure => have := HR.out; omega
        case rel => exact ⟨k + 1, _, _, L ++ [(ext f n k + ext g m k + c) % 4294967296], by omega, HLa.out, rfl, by go_num, rfl, HE.out.2, by simp [HL.out], by simpa using ho, by rw [dl_snoc, HL.out]; exact hI2, hb6⟩
      · have t1 : decide (k < n) = false := by simpa using q1
        by_cases q2 : k < m
        · have t2 : decide (k < m) = true := by simpa using q2
          clear q1 q2
          go_wp2_with fail
          refine G1.out.mono ?_
          rintro e _ ⟨rfl, rfl⟩
          go_wp2_with fail
          refine G2.out.mono ?_
          rintro e _ ⟨rfl, rfl⟩
          go_wp2_with (at_builtin; refine wpList_append_lies _ (by rfl) (.tmp 34) (.tmp 37) 79 (by rfl) w.heap.size 90 i0 _ 1 4 Tryd.underlying79 hi hz0 hz1 hz2 rfl (by omega) _ _ _ (by rfl) (World.ownsRow.alloc hown _) ⟨wr.heap.size, 0, none⟩ 1 1 [.int .u32 ((F + G + C) % 4294967296)] (by rfl) (by rfl) (World.news_of_block (heap_alloc_new wr _)) (by simp [Value.oneCell']) (by omega) (by unfold maxLen; omega) (by omega) (by simp; omega) (wr.heap.size + 1) (by simp) ?_; intro g' cap' w6 hown6 hgrow hat hlt6)
          rw [HE.out.1] at hown6
          have ho := OwnD.snoc (E := 90) hown6
          have hb6 : Below w.heap.size w w6 := (hb.alloc hb.size _).grown hgrow (by simp; omega) (fun q hq => (World.ownsRow.lt hown q hq).1)
          clear hown6 hgrow hat hown
          go_wp2_with fail
          go_roundg (M + 1 - (k + 1))
          case measure => have := HR.out; omega
          case rel => exact ⟨k + 1, _, _, L ++ [(ext f n k + ext g m k + c) % 4294967296], by omega, HLa.out, rfl, by go_num, rfl, HE.out.2, by simp [HL.out], by simpa using ho, by rw [dl_snoc, HL.out]; exact hI2, hb6⟩
        · have t2 : decide (k < m) = false := by simpa using q2
          have t3 : decide (0 < C) = true := by have := hgo'.out; simp; omega
          clear q1 q2
          go_wp2_with fail
          refine G1.out.mono ?_
          rintro e _ ⟨rfl, rfl⟩
          go_wp2_with fail
          refine G2.out.mono ?_
          rintro e _ ⟨rfl, rfl⟩
          go_wp2_with (at_builtin; refine wpList_append_lies _ (by rfl) (.tmp 34) (.tmp 37) 79 (by rfl) w.heap.size 90 i0 _ 1 4 Tryd.underlying79 hi hz0 hz1 hz2 rfl (by omega) _ _ _ (by rfl) (World.ownsRow.alloc hown _) ⟨wr.heap.size, 0, none⟩ 1 1 [.int .u32 ((F + G + C) % 4294967296)] (by rfl) (by rfl) (World.news_of_block (heap_alloc_new wr _)) (by simp [Value.oneCell']) (by omega) (by unfold maxLen; omega) (by omega) (by simp; omega) (wr.heap.size + 1) (by simp) ?_; intro g' cap' w6 hown6 hgrow hat hlt6)
          rw [HE.out.1] at hown6
          have ho := OwnD.snoc (E := 90) hown6
          have hb6 : Below w.heap.size w w6 := (hb.alloc hb.size _).grown hgrow (by simp; omega) (fun q hq => (World.ownsRow.lt hown q hq).1)
          clear hown6 hgrow hat hown
          go_wp2_with fail
          go_roundg (M + 1 - (k + 1))
          case measure => have := HR.out; omega
          case rel => exact ⟨k + 1, _, _, L ++ [(ext f n k + ext g m k + c) % 4294967296], by omega, HLa.out, rfl, by go_num, rfl, HE.out.2, by simp [HL.out], by simpa using ho, by rw [dl_snoc, HL.out]; exact hI2, hb6⟩
    · obtain rfl : C = 0 := by omega
      have t1 : decide (k < n) = false := by simp; omega
      have t2 : decide (k < m) = false := by simp; omega
      have hc0 : c = 0 := by have := HC.out; omega
      subst hc0
      have hkk : n ≤ k ∧ m ≤ k := by omega
      have hv : nv 4294967296 (dl L) k = nv 4294967296 f n + nv 4294967296 g m := by
        have h := hI.eq
        rw [Nat.zero_mul, Nat.add_zero, nv_ext hkk.1, nv_ext hkk.2] at h
        exact h
      have hlt := hI.lt
      have HV := Lib.hid hv
      have hrd := hown.rd.2
      rw [HL.out] at hrd hcap
      clear hI hv hgo hkk hr1 hr2 hck
      rw [HL.out]
      go_wp2_with fail
      refine (trim142 4294967296 A k cap _ wr hcap (by assumption) hrd hlt).mono ?_
      rintro e w7 ⟨v, rfl, hv, rfl⟩
      rw [HV.out] at hv
      go_wp2_with fail
      go_ret
      exact ⟨_, rfl, hv, hb⟩
end Go.Proofs.YtpligjkbnlfhgaaDoor
