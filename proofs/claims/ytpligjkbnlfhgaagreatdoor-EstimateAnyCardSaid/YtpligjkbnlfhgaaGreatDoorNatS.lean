/- Long numbers: the program's long division. -/
import Derived.Test.YtpligjkbnlfhgaaGreatDoorNat1
import Derived.Test.YtpligjkbnlfhgaaGreatDoorPl
namespace Go.Proofs.YtpligjkbnlfhgaaGreatDoor
open Go.RowKit

theorem mul_bd2 {X Y M N : Int} (h0 : 0 ≤ X) (h1 : X ≤ M) (k0 : 0 ≤ Y) (k1 : Y ≤ N) : 0 ≤ X * Y ∧ X * Y ≤ M * N := ⟨Int.mul_nonneg h0 k0, Int.mul_le_mul h1 k1 k0 (by omega)⟩
theorem OwnD.other {E : TypeId} {w w' : World} {B g n c k : Nat} {L : List Nat} (h : OwnD E w B (.slice (some ⟨g, 0, none⟩) n c) L) (hb : w.grownBy w' (some k)) (hne : g ≠ k) : OwnD E w' B (.slice (some ⟨g, 0, none⟩) n c) L :=
  World.ownsRow.kept h hb (.inr (fun he => hne (by injection he)))
theorem natV_one {w : World} {g x : Nat} {t : TypeId} (h : w.heap[g]? = some (.cells #[.int .u32 (x : Int)] t (0, 0))) (h0 : x ≠ 0) (hx : x < 1000000000) : NatV 1000000000 w (.slice (some ⟨g, 0, none⟩) 1 1) x := by
  refine ⟨_, 1, 1, fun _ => x, rfl, Nat.le_refl _, by unfold maxLen; omega, fun _ => ⟨g, 0, rfl, lt_of_blk h, fun i hi => ?_⟩, ⟨fun i hi => hx, fun _ => h0⟩, by simp [nv]⟩
  obtain rfl : i = 0 := by omega
  rw [cell_of_block h]; rfl

set_option maxRecDepth 100000 in
set_option maxHeartbeats 8000000 in
theorem divNat60 (K : Nat) (v1 v2 : Value) (a b : Nat) (w : World) (hK : K ≤ 200000) (hK3 : 30 ≤ K) (s1 : Sm K a) (s2 : Sm K b) (hb0 : b ≠ 0) (h1 : NatV 1000000000 w v1 a) (h2 : NatV 1000000000 w v2 b) :
    Calls Tryz.prog 109 #[v1, v2] w fun e w' => ∃ q r, e = .returned (.tuple #[q, r]) ∧ NatV 1000000000 w' q (a / b) ∧ NatV 1000000000 w' r (a % b) ∧ Below w.heap.size w w' := by
  have hcmp := cmpNat64 1000000000 (by omega) v1 v2 a b w h1 h2
  by_cases hlt : a < b
  · rw [cmpI_lt hlt] at hcmp
    have e1 := Lib.hid (Nat.div_eq_of_lt hlt)
    have e2 := Lib.hid (Nat.mod_eq_of_lt hlt)
    clear hlt
    go_enter Tryz.func109, Tryz.ntmps109
    go_wp2_with fail
    refine hcmp.mono ?_
    rintro e _ ⟨rfl, k, rfl⟩
    have h1' := h1.below (below_drewN (Below.refl _ _) k)
    go_wp2_with fail
    go_ret2
    exact ⟨_, _, rfl, by rw [e1.out]; exact NatV.nil, by rw [e2.out]; exact h1', below_drewN (Below.refl _ _) k⟩
  · obtain ⟨q, hq⟩ : ∃ q : Int, cmpI a b = q := ⟨_, rfl⟩
    have hqp : 0 ≤ q := by rw [← hq]; exact cmpI_ge (by omega)
    rw [hq] at hcmp
    have d1 : decide (q < 0) = false := by simp; omega
    have h2' := h2
    obtain ⟨A2, n, c2, g, rfl, hc2, hm2, hr2, hd2, hbv⟩ := h2
    unfold maxLen at hm2
    have hn0 : n ≠ 0 := by rintro rfl; exact hb0 hbv.symm
    have l2 : n ≤ K := by rw [← hbv] at s2; exact s2.len (by omega) hd2
    obtain ⟨b2, o2, rfl, hb2, hcell2⟩ := hr2 (by omega)
    by_cases hn1 : n = 1
    · subst hn1
      have x0 := hcell2 0 (by omega)
      simp only [Nat.add_zero] at x0
      have hbg : g 0 = b := by rw [← hbv]; simp [nv]
      have hbb : b < 1000000000 := by rw [← hbg]; exact hd2.1 0 (by omega)
      unfold u32V at x0
      rw [hbg] at x0
      clear hbv hr2 hcell2 hd2 hq hbg
      go_enter Tryz.func109, Tryz.ntmps109
      go_wp2_with fail
      refine hcmp.mono ?_
      rintro e _ ⟨rfl, k, rfl⟩
      have h1' := h1.below (below_drewN (Below.refl _ _) k)
      go_wp2_with fail
      refine (small111 K v1 a b _ (by omega) s1 (by omega) hbb h1').mono ?_
      rintro e w2 ⟨vq, vr, rfl, hvq, hvr, hb2'⟩
      have hbw := below_trans' (below_drewN (Below.refl _ _) k) (Nat.le_refl _) hb2'
      clear hb2'
      go_wp2_with fail
      go_ret2
      exact ⟨_, _, rfl, hvq, hvr, hbw⟩
    · have hn2 : 2 ≤ n := by omega
      have x0 := hcell2 (n - 1) (by omega)
      have dn1 : ((n : Int) == 1) = false := by rw [beq_eq_false_iff_ne]; omega
      have en1 : (n : Int) - 1 = ((n - 1 : Nat) : Int) := by omega
      have hxb := hd2.1 (n - 1) (by omega)
      have htop := hd2.2 hn0
      obtain ⟨X, hX⟩ := letter (g (n - 1))
      unfold u32V at x0
      rw [← hX] at x0
      have hXb : 0 < X ∧ X < 1000000000 := by omega
      obtain ⟨d, hd⟩ : ∃ d, 1000000000 / (g (n - 1) + 1) = d := ⟨_, rfl⟩
      obtain ⟨D, hD⟩ := letter d
      have hdb : 0 < d ∧ d < 1000000000 := by
        rw [← hd]
        exact ⟨Nat.div_pos (by omega) (by omega), Nat.div_lt_self (by omega) (by omega)⟩
      have hDb : 0 < D ∧ D < 1000000000 := by omega
      have e1 : (1000000000 : Int) / (X + 1) = D := by rw [hX, hD, ← hd]; rfl
      have e2 : Int.tdiv 1000000000 (X + 1) = D := by rw [Int.tdiv_eq_ediv_of_nonneg (by omega), e1]
      have dne : X + 1 ≠ 0 := by omega
      have HD := Lib.hid hd
      have HDD := Lib.hid hD
      clear hq hX hd hxb
      obtain ⟨n1, hn1'⟩ : ∃ n1, n - 1 = n1 := ⟨_, rfl⟩
      rw [hn1'] at x0 en1
      have HN1 := Lib.hid hn1'
      clear hn1' hD
      go_enter Tryz.func109, Tryz.ntmps109
      go_wp2_with fail
      refine hcmp.mono ?_
      rintro e _ ⟨rfl, k, rfl⟩
      go_wp2_with fail
      have hsd : Sm K d := Nat.lt_of_lt_of_le (show d < 2 ^ 30 by omega) (Nat.pow_le_pow_right (by omega) hK3)
      have hsc := heap_alloc_new (w.drewN k) (.cells #[.int .u32 D] 121)
      have hbel : Below w.heap.size w ((w.drewN k).alloc (.cells #[.int .u32 D] 121)) := (below_drewN (Below.refl _ _) k).alloc (Nat.le_refl _) _
      have hsz : w.heap.size < ((w.drewN k).alloc (.cells #[.int .u32 D] 121)).heap.size := lt_of_blk hsc
      generalize (w.drewN k).alloc (.cells #[.int .u32 D] 121) = W1 at *
      replace hsc : W1.heap[w.heap.size]? = some (.cells #[.int .u32 (d : Int)] 121 (0, 0)) := by rw [← HDD.out]; exact hsc
      refine (mulNat61 K v1 _ a d W1 (by omega) s1 hsd (h1.below hbel) (natV_one hsc (by omega) hdb.2)).mono ?_
      rintro e w2 ⟨vu, rfl, hu, hb2'⟩
      have hsc2 : w2.heap[w.heap.size]? = some (.cells #[.int .u32 (d : Int)] 121 (0, 0)) := by rw [hb2'.block _ hsz]; exact hsc
      have hv2 := (h2'.below hbel).below hb2'
      have hbw2 := below_trans' hbel hbel.size hb2'
      have hsz2 : w.heap.size < w2.heap.size := Nat.lt_of_lt_of_le hsz hb2'.size
      clear hb2' hbel hsc hsz h1
      go_wp2_with fail
      refine (mulNat61 K _ _ b d w2 (by omega) s2 hsd hv2 (natV_one hsc2 (by omega) hdb.2)).mono ?_
      rintro e w3 ⟨vv, rfl, hv, hb3⟩
      have hsc3 : w3.heap[w.heap.size]? = some (.cells #[.int .u32 (d : Int)] 121 (0, 0)) := by rw [hb3.block _ hsz2]; exact hsc2
      have hu3 := hu.below hb3
      have hbw3 := below_trans' hbw2 hbw2.size hb3
      have hsz3 : w.heap.size < w3.heap.size := Nat.lt_of_lt_of_le hsz2 hb3.size
      clear hb3 hbw2 hsc2 hsz2 hu hv2 h2' hr2 hcell2 hcmp x0
      obtain ⟨Au, l, cu, fu, rfl, hcu, hmu, hru, hdu, hUu⟩ := hu3
      obtain ⟨Av, nn, cv, gv, rfl, hcv, hmv, hrv, hdv, hVv⟩ := hv
      obtain ⟨hnn, hhalf, _, _⟩ := scale_v (by omega) (by decide) hd2 hn0 hdv (by rw [hVv, HD.out, hbv])
      subst hnn
      have hsU : Sm (K + 30) (nv 1000000000 fu l) := by rw [hUu]; exact s1.mul (m := 30) (show d < 2 ^ 30 by omega)
      have hl : l ≤ K + 30 := hsU.len (by omega) hdu
      have hnl : nn ≤ l := by
        have g1 := hdv.ge hn0
        have g2 : nv 1000000000 gv nn ≤ nv 1000000000 fu l := by rw [hVv, hUu]; exact Nat.mul_le_mul_right _ (by omega)
        have := len_gt (by omega) hdu (Nat.le_trans g1 g2)
        omega
      unfold maxLen at hmu hmv
      have hl0 : 0 < l := by omega
      obtain ⟨i0, hi, hz0, hz1, hz2⟩ := info_parts infoU
      clear d1 dn1 dne e1 e2 en1 hcu hmu
      go_wp2_with fail
      refine (clone112 Au l cu fu w3 hl0 (by omega) hru).mono ?_
      rintro e w4 ⟨vr, rfl, hor, hb4⟩
      obtain ⟨gr0, cap0, cur0, rfl, hgB0, hgb0, hlc0, hcm0, _⟩ := hor.blk (by rw [digs_len]; exact hl0)
      have hor' : w4.ownsRow w3.heap.size 121 1 (.slice (some ⟨gr0, 0, none⟩) (digs fu l).length cap0) (digs fu l).length ((digs fu l).map u32V) := hor
      rw [digs_len] at hor' hlc0 ⊢
      clear hor hgb0
      obtain ⟨M, hM⟩ : ∃ M, l - nn + 1 = M := ⟨_, rfl⟩
      have eM : (l : Int) - (nn : Int) + 1 = (M : Int) := by omega
      have eM0 : (l : Int) - (nn : Int) = ((l - nn : Nat) : Int) := by omega
      have eM1 : ((l - nn : Nat) : Int) + 1 = (M : Int) := by omega
      have HM := Lib.hid hM
      have hMb : M ≤ 300000 := by omega
      have h43 : w3.heap.size ≤ w4.heap.size := hb4.size
      clear hM
      go_wp2_with (first
        | (at_builtin; refine wpList_append_lies _ (by rfl) (.tmp 51) (.tmp 52) 112 (by rfl) w3.heap.size 121 i0 _ 1 4 Tryz.underlying112 hi hz0 hz1 hz2 rfl (by omega) _ _ _ (by rfl) (World.ownsRow.alloc hor' _) ⟨w4.heap.size, 0, none⟩ 1 1 [.int .u32 0] (by rfl) (by rfl) (World.news_of_block (heap_alloc_new w4 _)) (by simp [Value.oneCell']) (by omega) (by unfold maxLen; omega) (by omega) (by simp; omega) (w4.heap.size + 1) (by simp) ?_; intro gr capr w6 hown6 hgrow hat hlt6)
        | (at_make; refine wpList_make_full _ rfl _ _ 112 rfl w6.heap.size 121 i0 (.int .u32 0) 1 Tryz.underlying112 hi hz0 hz1 .i64 .i64 _ _ M rfl rfl (by first | rfl | omega) (by first | rfl | omega) (by rw [hz2]; omega) (by unfold maxLen; omega) (Nat.le_refl _) ?_; intro w7 hown7 hgrow7))
      have hb6 : Below w3.heap.size w3 w6 := (hb4.alloc h43 _).grown hgrow (by simp; omega) (fun q hq => (World.ownsRow.lt hor' q hq).1)
      have hb7 : Below w3.heap.size w3 w7 := hb6.grown hgrow7 hb6.size (fun q hq => by cases hq)
      have hro6 : OwnD 121 w6 w3.heap.size (.slice (some ⟨gr, 0, none⟩) (l + 1) capr) (digs fu l ++ [0]) := OwnD.snoc (L := digs fu l) (x := 0) (by rw [digs_len]; exact hown6)
      have hb67 : Below w6.heap.size w6 w7 := (Below.refl _ _).grown hgrow7 (Nat.le_refl _) (fun q hq => by cases hq)
      have hro7 := hro6.below hb67
      have hoo7 : OwnD 121 w7 w6.heap.size (.slice (some ⟨w6.heap.size, 0, none⟩) M M) (List.replicate M 0) := OwnD.made hown7
      have hgr3 : w3.heap.size ≤ gr := (World.ownsRow.lt hro6 gr rfl).1
      have hcapr : l + 1 ≤ capr ∧ capr ≤ 9223372036854775807 := by
        obtain ⟨_, _, hs, hc, hm⟩ := hro6.shape
        injection hs with _ h2 h3
        subst h3
        unfold maxLen at hm
        rw [← h2] at hc
        exact ⟨hc, hm⟩
      have hGo3 : w3.heap.size ≤ w6.heap.size := hb6.size
      have hstart : DvO 1000000000 (dl (digs fu l ++ [0])) (dl (List.replicate M 0)) gv (nv 1000000000 fu l) (l + 1) nn M M := by
        have hMM := HM.out
        have := DvO.start (B := 1000000000) (u := fu) (R := dl (digs fu l ++ [0])) (O := dl (List.replicate M 0)) (v := gv) (l := l) (n := nn) (by omega) hnl hn0 (hdv.2 hn0) hdu.1 (fun j hj => by rw [dl_snoc, updN_other _ (by rw [digs_len]; omega)]; exact dl_digs hj) (by rw [dl_snoc, digs_len, updN_same]) (fun j hj => dl_replicate j (by omega))
        rwa [hMM] at this
      have hgo : gr < w6.heap.size := hlt6
      generalize hGe : w6.heap.size = Go at *
      have hV1 := hdv.1 (nn - 1) (by omega)
      have hV2 := hdv.1 (nn - 2) (by omega)
      obtain ⟨bv, ov, hAv, hbv3, hcellv⟩ := hrv (by omega)
      obtain ⟨n2, hn2'⟩ : ∃ n2, nn - 2 = n2 := ⟨_, rfl⟩
      have hn1x := HN1.out
      have y1 := hcellv (nn - 1) (by omega)
      have y2 := hcellv (nn - 2) (by omega)
      obtain ⟨V1, hV1e⟩ := letter (gv (nn - 1))
      obtain ⟨V2, hV2e⟩ := letter (gv (nn - 2))
      unfold u32V at y1 y2
      rw [← hV1e] at y1
      rw [← hV2e] at y2
      rw [hn1x] at y1
      rw [hn2'] at y2
      have hV1b : 0 < V1 ∧ V1 < 1000000000 := by omega
      have hV2b : 0 ≤ V2 ∧ V2 < 1000000000 := by omega
      have m1 : (nn : Int) - 1 = (n1 : Int) := by omega
      have m2 : (nn : Int) - 2 = (n2 : Int) := by omega
      have hnlt : n1 < nn ∧ n2 < nn := by omega
      have HV1 := Lib.hid hV1e
      have HV2 := Lib.hid hV2e
      have HN2 := Lib.hid hn2'
      have HHF := Lib.hid hhalf
      have HDV := Lib.hid hdv.1
      have HSEP := Lib.hid (show 0 < nn → ∀ ad, Av = some ad → ad.block ≠ gr from fun _ ad h => by rw [hAv] at h; injection h with h; rw [← h]; show bv ≠ gr; omega)
      have HST := Lib.hid hstart
      have HUU := Lib.hid hUu
      have HVV := Lib.hid hVv
      have HRV := Lib.hid hrv
      have HBW := Lib.hid hbw3
      have HSC := Lib.hid hsc3
      have hsU' := Lib.hid hsU
      subst hAv
      clear hown6 hgrow hat hown7 hgrow7 hor' hb4 h43 hb6 hro6 hb67 hV1e hV2e hn1x hn2' hV1 hV2 hhalf hdv hstart hUu hVv hrv hbw3 hsc3 hcellv hdu hru eM eM0 eM1 hlt6 hGe htop hd2 hbv
      go_loopg [12, 13, 14, 15] M (fun mm kk _ _ _ wr => ∃ (t : Nat) (Lr Lo : List Nat), t ≤ M ∧ mm = t ∧ kk = .int .i64 ((t : Int) - 1) ∧ Lr.length = l + 1 ∧ Lo.length = M ∧ OwnD 121 wr w3.heap.size (.slice (some ⟨gr, 0, none⟩) (l + 1) capr) Lr ∧ OwnD 121 wr Go (.slice (some ⟨Go, 0, none⟩) M M) Lo ∧ DvO 1000000000 (dl Lr) (dl Lo) gv (nv 1000000000 fu l) (l + 1) nn M t ∧ Below w3.heap.size w3 wr)
      case atStart => exact ⟨M, digs fu l ++ [0], List.replicate M 0, Nat.le_refl _, rfl, by have := HM.out; congr 1; omega, by simp [digs_len], by simp, hro7, hoo7, HST.out, hb7⟩
      case round =>
        clear hro7 hoo7 hb7
        obtain ⟨t, Lr, Lo, ht, hm, rfl, hLr, hLo, hro, hoo, hD, hb⟩ := hrel
        have HMm := Lib.hid hm
        have HLr := Lib.hid hLr
        have HLo := Lib.hid hLo
        clear hm hLr hLo
        have h3r : w3.heap.size ≤ wr.heap.size := hb.size
        cases t with
        | zero =>
          obtain ⟨k1, k2⟩ := hD.done
          rw [HUU.out, HVV.out] at k1 k2
          obtain ⟨sd1, sd2⟩ := scaled_div (a := a) (b := b) hdb.1
          rw [sd1] at k1
          have K1 := Lib.hid k1
          have K2 := Lib.hid (show nv 1000000000 (dl Lr) (l + 1) / d = a % b by rw [k2]; exact sd2)
          have hRd := Lib.hid hD.Rd
          have hOd := Lib.hid hD.Od
          have hrd := hro.rd.2
          rw [HLr.out] at hrd
          have hsR : Sm (K + 30) (nv 1000000000 (dl Lr) (l + 1)) := by
            rw [k2]
            exact hsU'.out.le (by rw [HUU.out]; exact Nat.mod_le _ _)
          have hsc : wr.cell? ⟨w.heap.size, 0, none⟩ = some (.int .u32 (d : Int)) := by
            rw [show wr.cell? ⟨w.heap.size, 0, none⟩ = w3.cell? ⟨w.heap.size, 0, none⟩ from hb.cell (p := ⟨w.heap.size, 0, none⟩) hsz3, cell_of_block HSC.out]; rfl
          have hrd' : RdD wr.drew (some ⟨gr, 0, none⟩) (l + 1) (dl Lr) := hrd.below (Below.refl _ _).drew
          have hlw : w.heap.size < wr.heap.size := by omega
          have HRD := Lib.hid hrd'
          have hcap' := Lib.hid hcapr
          have hdb' := Lib.hid hdb
          clear hD k1 k2 sd1 sd2 hrd hrd' hcapr hdb
          go_wp2_with fail
          go_region_with (first
            | (go_at_call 135; with_reducible refine (trim115 1000000000 (some ⟨gr, 0, none⟩) (l + 1) capr _ _ hcap'.out.1 (by unfold maxLen; exact hcap'.out.2) HRD.out hRd.out).mono ?_; rintro e _ ⟨v, rfl, hv, rfl⟩)
            | (go_at_call 131; with_reducible refine (small111 (K + 30) _ _ d _ (by omega) hsR hdb'.out.1 hdb'.out.2 (by assumption)).mono ?_; rintro e w9 ⟨vq, vl, rfl, hvq, hvl, hb9⟩))
          all_goals
            have hoo9 : OwnD 121 w9 Go (.slice (some ⟨Go, 0, none⟩) M M) Lo := (hoo.drewN 1).below hb9
            have hrd9 := hoo9.rd.2
            rw [HLo.out] at hrd9
            have hbw9 : Below w.heap.size w w9 := by
              have q1 := below_trans' HBW.out HBW.out.size hb
              exact q1.drew.trans (hb9.mono q1.size)
            rw [K2.out] at hvq
            clear hb9 hoo hro hoo9
            go_wp2_with fail
            refine (trim115 1000000000 (some ⟨Go, 0, none⟩) M M _ w9 (Nat.le_refl _) (by unfold maxLen; omega) hrd9 hOd.out).mono ?_
            rintro e w10 ⟨v10, rfl, hv10, rfl⟩
            rw [K1.out] at hv10
            go_wp2_with fail
            go_ret2
            exact ⟨_, _, rfl, hv10, hvq, hbw9⟩
        | succ k =>
          have ei : ((k + 1 : Nat) : Int) - 1 = (k : Int) := by omega
          rw [ei]
          have hMl := HM.out
          have hkl : k + nn + 1 ≤ l + 1 := by omega
          obtain ⟨_, hX⟩ := hD.part (by omega) HDV.out hkl
          have hPe := EstP.of (B := 1000000000) (R := offN (dl Lr) k) (v := gv) (n := nn) (by omega) hn2 (fun j hj => hD.Rd (k + j) (by omega)) HDV.out hX HHF.out
          have hA0 := hD.Rd (k + nn) (by omega)
          have hA1 := hD.Rd (k + (nn - 1)) (by omega)
          have hA2 := hD.Rd (k + (nn - 2)) (by omega)
          obtain ⟨A0, hA0e⟩ := letter (dl Lr (k + nn))
          obtain ⟨A1, hA1e⟩ := letter (dl Lr (k + (nn - 1)))
          obtain ⟨A2, hA2e⟩ := letter (dl Lr (k + (nn - 2)))
          obtain ⟨x0, x0f, _, x0l⟩ := hro.cell (k + nn) (by rw [HLr.out]; omega)
          obtain ⟨x1, x1f, _, _⟩ := hro.cell (k + (nn - 1)) (by rw [HLr.out]; omega)
          obtain ⟨x2, x2f, _, _⟩ := hro.cell (k + (nn - 2)) (by rw [HLr.out]; omega)
          unfold u32V at x0 x1 x2
          rw [← hA0e] at x0
          rw [← hA1e] at x1
          rw [← hA2e] at x2
          have hA0b : 0 ≤ A0 ∧ A0 < 1000000000 := by omega
          have hA1b : 0 ≤ A1 ∧ A1 < 1000000000 := by omega
          have hA2b : 0 ≤ A2 ∧ A2 < 1000000000 := by omega
          obtain ⟨kn, hkn⟩ : ∃ kn, k + nn = kn := ⟨_, rfl⟩
          obtain ⟨kn1, hkn1⟩ : ∃ kn1, k + (nn - 1) = kn1 := ⟨_, rfl⟩
          obtain ⟨kn2, hkn2⟩ : ∃ kn2, k + (nn - 2) = kn2 := ⟨_, rfl⟩
          rw [hkn] at x0
          rw [hkn1] at x1
          rw [hkn2] at x2
          have j0 : (k : Int) + (nn : Int) = (kn : Int) := by omega
          have j1 : (kn : Int) - 1 = (kn1 : Int) := by omega
          have j2 : (kn : Int) - 2 = (kn2 : Int) := by omega
          have hknb : kn < l + 1 ∧ kn1 < l + 1 ∧ kn2 < l + 1 := by omega
          have z1 : wr.cell? ⟨bv, ov + n1, none⟩ = some (.int .u32 V1) := by rw [← y1]; exact hb.cell (p := ⟨bv, ov + n1, none⟩) hbv3
          have z2 : wr.cell? ⟨bv, ov + n2, none⟩ = some (.int .u32 V2) := by rw [← y2]; exact hb.cell (p := ⟨bv, ov + n2, none⟩) hbv3
          have hbvr : bv < wr.heap.size := by omega
          obtain ⟨T, hT⟩ : ∃ T : Int, A0 * 1000000000 + A1 = T := ⟨_, rfl⟩
          obtain ⟨tn, htn⟩ : ∃ tn : Nat, dl Lr (k + nn) * 1000000000 + dl Lr (k + (nn - 1)) = tn := ⟨_, rfl⟩
          have hTn : T = (tn : Int) := by omega
          obtain ⟨hE0, hr0⟩ := EstI.start hPe (by omega)
          have hPe' : EstP 1000000000 tn (dl Lr (k + (nn - 2))) (gv (nn - 1)) (gv (nn - 2)) (nv 1000000000 (offN (dl Lr) k) (nn + 1)) (nv 1000000000 gv nn) := by rw [← htn]; exact hPe
          have hE0' : EstI 1000000000 tn (dl Lr (k + (nn - 2))) (gv (nn - 1)) (gv (nn - 2)) (nv 1000000000 (offN (dl Lr) k) (nn + 1)) (nv 1000000000 gv nn) (tn / gv (nn - 1)) (tn % gv (nn - 1)) := by rw [← htn]; exact hE0
          have hr0' : tn % gv (nn - 1) < 1000000000 := by rw [← htn]; exact hr0
          obtain ⟨Q0, hQ0⟩ := letter (tn / gv (nn - 1))
          obtain ⟨R0, hR0⟩ := letter (tn % gv (nn - 1))
          have e1 : IntKind.u64.wrap (A0 * 1000000000) = A0 * 1000000000 := IntWalk.u64_in _ (by omega)
          have e2 : IntKind.u64.wrap (A0 * 1000000000 + A1) = T := by rw [hT]; exact IntWalk.u64_in _ (by omega)
          have hTb : 0 ≤ T ∧ T < 1000000000000000000 := by omega
          have e3 : T / V1 = Q0 := by rw [hTn, HV1.out, hQ0, Int.natCast_ediv]
          have e4 : T % V1 = R0 := by rw [hTn, HV1.out, hR0, Int.natCast_emod]
          have e5 : T.tdiv V1 = Q0 := by rw [Int.tdiv_eq_ediv_of_nonneg hTb.1, e3]
          have e6 : T.tmod V1 = R0 := by rw [Int.tmod_eq_emod_of_nonneg hTb.1, e4]
          have v1ne : V1 ≠ 0 := by omega
          have hQ0b : 0 ≤ Q0 ∧ Q0 ≤ 1000000002 := by
            have := hE0'.qb
            rw [hQ0]
            clear e3 e4 e5 e6
            generalize tn / gv (nn - 1) = qq at this ⊢
            omega
          have hR0b : 0 ≤ R0 ∧ R0 < 1000000000 := by
            have := hr0'
            rw [hR0]
            clear e3 e4 e5 e6
            generalize tn % gv (nn - 1) = qq at this ⊢
            omega
          have HKN2 := Lib.hid hkn2
          have HPE := Lib.hid hPe'
          have HE0 := Lib.hid hE0'
          have HR0b := Lib.hid hr0'
          have HQ0 := Lib.hid hQ0
          have HR0 := Lib.hid hR0
          have HA2e := Lib.hid hA2e
          have HKL := Lib.hid hkl
          have HKN := Lib.hid hkn
          clear hPe hPe' hE0 hE0' hr0 hr0' hQ0 hR0 hT htn hTn hA0 hA1 hA2 hA0e hA1e hA2e hkn hkn1 hkn2 hMl hkl ei hX
          go_wp2_with fail
          go_quiet (fail)
          replace hro := hro.drewN nq
          replace hoo := hoo.drewN nq
          replace hb := below_drewN hb nq
          go_wp2_with fail
          go_quiet (fail)
          replace hro := hro.drewN nq
          replace hoo := hoo.drewN nq
          replace hb := below_drewN hb nq
          go_wp2_with fail
          have HDO := Lib.hid hD
          clear x0 x1 x2 x0f x1f x2f x0l z1 z2 hbvr e1 e2 e3 e4 e5 e6 hD
          generalize (wr.drewN _).drewN _ = wo at hro hoo hb ⊢
          clear h3r
          go_loopg [14, 15] (tn / gv (nn - 1)) (fun mm qv rv wr => ∃ (qi ri : Nat) (QI RI : Int), mm = qi ∧ qv = .int .u64 QI ∧ rv = .int .u64 RI ∧ QI = qi ∧ RI = ri ∧ EstI 1000000000 tn (dl Lr (k + (nn - 2))) (gv (nn - 1)) (gv (nn - 2)) (nv 1000000000 (offN (dl Lr) k) (nn + 1)) (nv 1000000000 gv nn) qi ri ∧ ri < 1000000000 ∧ OwnD 121 wr w3.heap.size (.slice (some ⟨gr, 0, none⟩) (l + 1) capr) Lr ∧ OwnD 121 wr Go (.slice (some ⟨Go, 0, none⟩) M M) Lo ∧ Below w3.heap.size w3 wr)
          case atStart => exact ⟨_, _, _, _, rfl, rfl, rfl, HQ0.out, HR0.out, HE0.out, HR0b.out, hro, hoo, hb⟩
          case round =>
            clear hro hoo hb
            obtain ⟨qi, ri, QI, RI, hmi, rfl, rfl, hQI, hRI, hE, hrlt, hro, hoo, hb⟩ := hrel
            have HMI := Lib.hid hmi
            have hQb : 0 ≤ QI ∧ QI ≤ 1000000002 := by have := hE.qb; omega
            have hRb : 0 ≤ RI ∧ RI < 1000000000 := by omega
            have h3r : w3.heap.size ≤ wr.heap.size := hb.size
            have hbvr : bv < wr.heap.size := by omega
            obtain ⟨x2, x2f, _, x2l⟩ := hro.cell (k + (nn - 2)) (by rw [HLr.out]; have := HKN2.out; omega)
            unfold u32V at x2
            rw [← HA2e.out, HKN2.out] at x2
            have z1 : wr.cell? ⟨bv, ov + n1, none⟩ = some (.int .u32 V1) := by rw [← y1]; exact hb.cell (p := ⟨bv, ov + n1, none⟩) hbv3
            have z2 : wr.cell? ⟨bv, ov + n2, none⟩ = some (.int .u32 V2) := by rw [← y2]; exact hb.cell (p := ⟨bv, ov + n2, none⟩) hbv3
            have hp := mul_bd2 hQb.1 hQb.2 hV2b.1 (Int.le_of_lt hV2b.2)
            obtain ⟨PV, hPV⟩ : ∃ PV : Int, QI * V2 = PV := ⟨_, rfl⟩
            rw [hPV] at hp
            have e1 : IntKind.u64.wrap (QI * V2) = PV := by rw [hPV]; exact IntWalk.u64_in _ (by omega)
            obtain ⟨SV, hSV⟩ : ∃ SV : Int, RI * 1000000000 + A2 = SV := ⟨_, rfl⟩
            have e2 : IntKind.u64.wrap (RI * 1000000000) = RI * 1000000000 := IntWalk.u64_in _ (by omega)
            have e3 : IntKind.u64.wrap (RI * 1000000000 + A2) = SV := by rw [hSV]; exact IntWalk.u64_in _ (by omega)
            have hSVb : 0 ≤ SV ∧ SV < 1000000000000000000 := by omega
            have hPn : PV = ((qi * gv (nn - 2) : Nat) : Int) := by rw [← hPV, hQI, HV2.out, Int.natCast_mul]
            have hSn : SV = ((ri * 1000000000 + dl Lr (k + (nn - 2)) : Nat) : Int) := by have := HA2e.out; omega
            have hcond : (SV < PV) ↔ ri * 1000000000 + dl Lr (k + (nn - 2)) < qi * gv (nn - 2) := by rw [hPn, hSn]; exact Int.ofNat_lt
            have HCO := Lib.hid hcond
            have HQI := Lib.hid hQI
            have HRI := Lib.hid hRI
            have HEI := Lib.hid hE
            clear hmi hPV hSV hPn hSn hcond hQI hRI hE hp
            by_cases hQB : 1000000000 ≤ QI
            · have dQ : decide (1000000000 ≤ QI) = true := by simpa using hQB
              have hbig : 1000000000 ≤ qi ∨ ri * 1000000000 + dl Lr (k + (nn - 2)) < qi * gv (nn - 2) := .inl (by have := HQI.out; omega)
              obtain ⟨hq1, hE2⟩ := HEI.out.down HPE.out hbig (by omega)
              have hq1' : 1 ≤ qi := hq1
              obtain ⟨QB, hQBe⟩ : ∃ QB : Int, QI - 1 = QB := ⟨_, rfl⟩
              have hQBb : 0 ≤ QB ∧ QB ≤ 1000000002 := by have := HQI.out; omega
              have eb1 : IntKind.u64.wrap (QI - 1) = QB := by rw [hQBe]; exact IntWalk.u64_in _ (by omega)
              obtain ⟨RN, hRNe⟩ : ∃ RN : Int, RI + V1 = RN := ⟨_, rfl⟩
              have eb2 : IntKind.u64.wrap (RI + V1) = RN := by rw [hRNe]; exact IntWalk.u64_in _ (by omega)
              have hRNb : 0 ≤ RN ∧ RN < 2000000000 := by omega
              have hQBn : QB = ((qi - 1 : Nat) : Int) := by have := HQI.out; omega
              have hRNn : RN = ((ri + gv (nn - 1) : Nat) : Int) := by have := HRI.out; have := HV1.out; omega
              have HQB := Lib.hid hQBn
              have HRN := Lib.hid hRNn
              have HE2 := Lib.hid hE2
              clear hQBe hRNe hQBn hRNn hE2 hbig hq1
              go_wp2_with fail
              go_quiet (fail)
              replace hro := hro.drewN nq
              replace hoo := hoo.drewN nq
              replace hb := below_drewN hb nq
              by_cases hbrk : 1000000000 ≤ RN
              · have dR : decide (1000000000 ≤ RN) = true := by simpa using hbrk
                have hEst := HE2.out.done HPE.out (.inl (by have := HRN.out; omega))
                have HES := Lib.hid hEst
                clear hEst hbrk
                go_wp2_with fail
                have ek : kn + 1 - k = nn + 1 := by have := HKN.out; omega
                rw [ek]
                have hbR := HRV.out.below hb
                have hred := reduce113 gr w3.heap.size k nn (l + 1) capr (capr - k) cv (qi - 1) (some ⟨bv, ov, none⟩) Lr gv _ hro HLr.out HKL.out (by omega) HDO.out.Rd hbR HDV.out HSEP.out HES.out.qB
                rw [← HQB.out] at hred
                refine hred.mono ?_
                clear hred
                rintro e w2 ⟨bb, cc, L', rfl, hL', hro2, hF2, hR2, hgr2⟩
                have hoo2 := hoo.other hgr2 (by omega)
                have hbw2 : Below w3.heap.size w3 w2 := hb.grown hgr2 hb.size (fun x hx => by injection hx with hx; omega)
                obtain ⟨g0, gf, _, gl⟩ := hoo2.cell k (by rw [HLo.out]; omega)
                have hF2' : ∀ j, j < k ∨ k + (nn + 1) ≤ j → dl L' j = dl Lr j := hF2
                have hg3 : w3.heap.size ≤ w2.heap.size := hbw2.size
                have hkM : k < M := by omega
                clear hgr2 hro hoo hb hbR
                by_cases hbz : bb = 0
                · subst hbz
                  obtain ⟨hqlt, hD2⟩ := HDO.out.fin_ok (by omega) HDV.out HKL.out hkM hF2' HES.out hR2
                  have hQlt : 0 ≤ QB ∧ QB < 1000000000 := by have := HQB.out; omega
                  have ew : IntKind.u32.wrap QB = QB := IntWalk.u32_in _ (by omega)
                  have hset := hoo2.set k (qi - 1)
                  unfold u32V at hset
                  rw [← HQB.out] at hset
                  have HS := Lib.hid hset
                  have HD2 := Lib.hid hD2
                  have HL' := Lib.hid hL'
                  clear hset hD2 hF2 hF2' hR2 hL' hqlt
                  go_wp2_with fail
                  go_roundg k
                  case measure => have := HMm.out; omega
                  case rel => exact ⟨k, L', Lo.set k (qi - 1), by omega, rfl, by first | rfl | go_num, HL'.out, by rw [List.length_set]; exact HLo.out, hro2.other (k := Go) (only_setCell (only_refl _ _) (.inl rfl) _) (by omega), HS.out.1, by rw [dl_set (by rw [HLo.out]; exact hkM)]; exact HD2.out, hbw2.setCell hGo3 _⟩
                · have db : decide (bb = 0) = false := by simpa using hbz
                  rw [db]
                  have hlt2 := fin_digits HDO.out.Rd hF2' hR2.lt
                  have hbR2 := HRV.out.below hbw2
                  obtain ⟨QP, hQP⟩ : ∃ QP : Int, QB - 1 = QP := ⟨_, rfl⟩
                  have hq1 : 1 ≤ (qi - 1) := by
                    have h := hR2.done (by omega) HDV.out HES.out.qB
                    have l1 := nv_lt hR2.lt
                    have hb1 := hR2.b1
                    refine Decidable.byContradiction fun hc => ?_
                    have : (qi - 1) = 0 := by omega
                    rw [this, Nat.zero_mul, show bb = 1 by omega, Nat.one_mul] at h
                    generalize (1000000000 : Nat) ^ (nn + 1) = PW at *
                    omega
                  have hQPb : 0 ≤ QP ∧ QP ≤ 1000000002 := by have := HQB.out; omega
                  have eq1 : IntKind.u64.wrap (QB - 1) = QP := by rw [hQP]; exact IntWalk.u64_in _ (by omega)
                  have hQPn : QP = (((qi - 1) - 1 : Nat) : Int) := by have := HQB.out; omega
                  have HQP := Lib.hid hQPn
                  have HR2 := Lib.hid hR2
                  have HF2 := Lib.hid hF2'
                  have HL' := Lib.hid hL'
                  have HLT2 := Lib.hid hlt2
                  have HBZ := Lib.hid hbz
                  clear hQP hQPn hR2 hF2 hF2' hL' hlt2 hbz db g0 gf gl
                  go_wp2_with fail
                  try rw [ek]
                  refine (restore114 gr w3.heap.size k nn (l + 1) capr (capr - k) cv (some ⟨bv, ov, none⟩) L' gv _ hro2 HL'.out HKL.out (by omega) HLT2.out hbR2 HDV.out HSEP.out).mono ?_
                  rintro e w5 ⟨rfl, c2', L2, hL2, hro5, hF5, hA5, hgr5⟩
                  have hoo5 := hoo2.other hgr5 (by omega)
                  have hbw5 : Below w3.heap.size w3 w5 := hbw2.grown hgr5 hbw2.size (fun x hx => by injection hx with hx; omega)
                  obtain ⟨_, hqlt, hD2⟩ := HDO.out.fin_bad (by omega) HDV.out HKL.out hkM HF2.out HES.out HR2.out HBZ.out hF5 hA5
                  have hQlt : 0 ≤ QP ∧ QP < 1000000000 := by have := HQP.out; omega
                  have ew : IntKind.u32.wrap QP = QP := IntWalk.u32_in _ (by omega)
                  obtain ⟨g0, gf, _, gl⟩ := hoo5.cell k (by rw [HLo.out]; omega)
                  have hset := hoo5.set k ((qi - 1) - 1)
                  unfold u32V at hset
                  rw [← HQP.out] at hset
                  have HS := Lib.hid hset
                  have HD2 := Lib.hid hD2
                  have HL2 := Lib.hid hL2
                  clear hset hD2 hF5 hA5 hL2 hqlt hgr5 hro2 hoo2 hbw2 hbR2
                  go_wp2_with fail
                  go_roundg k
                  case measure => have := HMm.out; omega
                  case rel => exact ⟨k, L2, Lo.set k ((qi - 1) - 1), by omega, rfl, by first | rfl | go_num, HL2.out, by rw [List.length_set]; exact HLo.out, hro5.other (k := Go) (only_setCell (only_refl _ _) (.inl rfl) _) (by omega), HS.out.1, by rw [dl_set (by rw [HLo.out]; exact hkM)]; exact HD2.out, hbw5.setCell hGo3 _⟩
              · have dR : decide (1000000000 ≤ RN) = false := by simpa using hbrk
                have hRl : ri + gv (nn - 1) < 1000000000 := by have := HRN.out; omega
                have HRL := Lib.hid hRl
                clear hRl hbrk
                go_wp2_with fail
                go_roundg (qi - 1)
                case measure => have := HMI.out; omega
                case rel => exact ⟨qi - 1, ri + gv (nn - 1), QB, RN, rfl, rfl, rfl, HQB.out, HRN.out, HE2.out, HRL.out, hro, hoo, hb⟩
            · have dQ : decide (1000000000 ≤ QI) = false := by simpa using hQB
              by_cases hSP : SV < PV
              · have dS : decide (SV < PV) = true := by simpa using hSP
                have hbig : 1000000000 ≤ qi ∨ ri * 1000000000 + dl Lr (k + (nn - 2)) < qi * gv (nn - 2) := .inr (HCO.out.1 hSP)
                obtain ⟨hq1, hE2⟩ := HEI.out.down HPE.out hbig (by omega)
                have hq1' : 1 ≤ qi := hq1
                obtain ⟨QB, hQBe⟩ : ∃ QB : Int, QI - 1 = QB := ⟨_, rfl⟩
                have hQBb : 0 ≤ QB ∧ QB ≤ 1000000002 := by have := HQI.out; omega
                have eb1 : IntKind.u64.wrap (QI - 1) = QB := by rw [hQBe]; exact IntWalk.u64_in _ (by omega)
                obtain ⟨RN, hRNe⟩ : ∃ RN : Int, RI + V1 = RN := ⟨_, rfl⟩
                have eb2 : IntKind.u64.wrap (RI + V1) = RN := by rw [hRNe]; exact IntWalk.u64_in _ (by omega)
                have hRNb : 0 ≤ RN ∧ RN < 2000000000 := by omega
                have hQBn : QB = ((qi - 1 : Nat) : Int) := by have := HQI.out; omega
                have hRNn : RN = ((ri + gv (nn - 1) : Nat) : Int) := by have := HRI.out; have := HV1.out; omega
                have HQB := Lib.hid hQBn
                have HRN := Lib.hid hRNn
                have HE2 := Lib.hid hE2
                clear hQBe hRNe hQBn hRNn hE2 hbig hq1
                go_wp2_with fail
                go_quiet (fail)
                replace hro := hro.drewN nq
                replace hoo := hoo.drewN nq
                replace hb := below_drewN hb nq
                by_cases hbrk : 1000000000 ≤ RN
                · have dR : decide (1000000000 ≤ RN) = true := by simpa using hbrk
                  have hEst := HE2.out.done HPE.out (.inl (by have := HRN.out; omega))
                  have HES := Lib.hid hEst
                  clear hEst hbrk
                  go_wp2_with fail
                  have ek : kn + 1 - k = nn + 1 := by have := HKN.out; omega
                  rw [ek]
                  have hbR := HRV.out.below hb
                  have hred := reduce113 gr w3.heap.size k nn (l + 1) capr (capr - k) cv (qi - 1) (some ⟨bv, ov, none⟩) Lr gv _ hro HLr.out HKL.out (by omega) HDO.out.Rd hbR HDV.out HSEP.out HES.out.qB
                  rw [← HQB.out] at hred
                  refine hred.mono ?_
                  clear hred
                  rintro e w2 ⟨bb, cc, L', rfl, hL', hro2, hF2, hR2, hgr2⟩
                  have hoo2 := hoo.other hgr2 (by omega)
                  have hbw2 : Below w3.heap.size w3 w2 := hb.grown hgr2 hb.size (fun x hx => by injection hx with hx; omega)
                  obtain ⟨g0, gf, _, gl⟩ := hoo2.cell k (by rw [HLo.out]; omega)
                  have hF2' : ∀ j, j < k ∨ k + (nn + 1) ≤ j → dl L' j = dl Lr j := hF2
                  have hg3 : w3.heap.size ≤ w2.heap.size := hbw2.size
                  have hkM : k < M := by omega
                  clear hgr2 hro hoo hb hbR
                  by_cases hbz : bb = 0
                  · subst hbz
                    obtain ⟨hqlt, hD2⟩ := HDO.out.fin_ok (by omega) HDV.out HKL.out hkM hF2' HES.out hR2
                    have hQlt : 0 ≤ QB ∧ QB < 1000000000 := by have := HQB.out; omega
                    have ew : IntKind.u32.wrap QB = QB := IntWalk.u32_in _ (by omega)
                    have hset := hoo2.set k (qi - 1)
                    unfold u32V at hset
                    rw [← HQB.out] at hset
                    have HS := Lib.hid hset
                    have HD2 := Lib.hid hD2
                    have HL' := Lib.hid hL'
                    clear hset hD2 hF2 hF2' hR2 hL' hqlt
                    go_wp2_with fail
                    go_roundg k
                    case measure => have := HMm.out; omega
                    case rel => exact ⟨k, L', Lo.set k (qi - 1), by omega, rfl, by first | rfl | go_num, HL'.out, by rw [List.length_set]; exact HLo.out, hro2.other (k := Go) (only_setCell (only_refl _ _) (.inl rfl) _) (by omega), HS.out.1, by rw [dl_set (by rw [HLo.out]; exact hkM)]; exact HD2.out, hbw2.setCell hGo3 _⟩
                  · have db : decide (bb = 0) = false := by simpa using hbz
                    rw [db]
                    have hlt2 := fin_digits HDO.out.Rd hF2' hR2.lt
                    have hbR2 := HRV.out.below hbw2
                    obtain ⟨QP, hQP⟩ : ∃ QP : Int, QB - 1 = QP := ⟨_, rfl⟩
                    have hq1 : 1 ≤ (qi - 1) := by
                      have h := hR2.done (by omega) HDV.out HES.out.qB
                      have l1 := nv_lt hR2.lt
                      have hb1 := hR2.b1
                      refine Decidable.byContradiction fun hc => ?_
                      have : (qi - 1) = 0 := by omega
                      rw [this, Nat.zero_mul, show bb = 1 by omega, Nat.one_mul] at h
                      generalize (1000000000 : Nat) ^ (nn + 1) = PW at *
                      omega
                    have hQPb : 0 ≤ QP ∧ QP ≤ 1000000002 := by have := HQB.out; omega
                    have eq1 : IntKind.u64.wrap (QB - 1) = QP := by rw [hQP]; exact IntWalk.u64_in _ (by omega)
                    have hQPn : QP = (((qi - 1) - 1 : Nat) : Int) := by have := HQB.out; omega
                    have HQP := Lib.hid hQPn
                    have HR2 := Lib.hid hR2
                    have HF2 := Lib.hid hF2'
                    have HL' := Lib.hid hL'
                    have HLT2 := Lib.hid hlt2
                    have HBZ := Lib.hid hbz
                    clear hQP hQPn hR2 hF2 hF2' hL' hlt2 hbz db g0 gf gl
                    go_wp2_with fail
                    try rw [ek]
                    refine (restore114 gr w3.heap.size k nn (l + 1) capr (capr - k) cv (some ⟨bv, ov, none⟩) L' gv _ hro2 HL'.out HKL.out (by omega) HLT2.out hbR2 HDV.out HSEP.out).mono ?_
                    rintro e w5 ⟨rfl, c2', L2, hL2, hro5, hF5, hA5, hgr5⟩
                    have hoo5 := hoo2.other hgr5 (by omega)
                    have hbw5 : Below w3.heap.size w3 w5 := hbw2.grown hgr5 hbw2.size (fun x hx => by injection hx with hx; omega)
                    obtain ⟨_, hqlt, hD2⟩ := HDO.out.fin_bad (by omega) HDV.out HKL.out hkM HF2.out HES.out HR2.out HBZ.out hF5 hA5
                    have hQlt : 0 ≤ QP ∧ QP < 1000000000 := by have := HQP.out; omega
                    have ew : IntKind.u32.wrap QP = QP := IntWalk.u32_in _ (by omega)
                    obtain ⟨g0, gf, _, gl⟩ := hoo5.cell k (by rw [HLo.out]; omega)
                    have hset := hoo5.set k ((qi - 1) - 1)
                    unfold u32V at hset
                    rw [← HQP.out] at hset
                    have HS := Lib.hid hset
                    have HD2 := Lib.hid hD2
                    have HL2 := Lib.hid hL2
                    clear hset hD2 hF5 hA5 hL2 hqlt hgr5 hro2 hoo2 hbw2 hbR2
                    go_wp2_with fail
                    go_roundg k
                    case measure => have := HMm.out; omega
                    case rel => exact ⟨k, L2, Lo.set k ((qi - 1) - 1), by omega, rfl, by first | rfl | go_num, HL2.out, by rw [List.length_set]; exact HLo.out, hro5.other (k := Go) (only_setCell (only_refl _ _) (.inl rfl) _) (by omega), HS.out.1, by rw [dl_set (by rw [HLo.out]; exact hkM)]; exact HD2.out, hbw5.setCell hGo3 _⟩
                · have dR : decide (1000000000 ≤ RN) = false := by simpa using hbrk
                  have hRl : ri + gv (nn - 1) < 1000000000 := by have := HRN.out; omega
                  have HRL := Lib.hid hRl
                  clear hRl hbrk
                  go_wp2_with fail
                  go_roundg (qi - 1)
                  case measure => have := HMI.out; omega
                  case rel => exact ⟨qi - 1, ri + gv (nn - 1), QB, RN, rfl, rfl, rfl, HQB.out, HRN.out, HE2.out, HRL.out, hro, hoo, hb⟩
              · have dS : decide (SV < PV) = false := by simpa using hSP
                have hEst := HEI.out.done HPE.out (.inr ⟨by have := HQI.out; omega, by have := HCO.out; omega⟩)
                have HES := Lib.hid hEst
                clear hEst
                go_wp2_with fail
                go_quiet (fail)
                replace hro := hro.drewN nq
                replace hoo := hoo.drewN nq
                replace hb := below_drewN hb nq
                go_wp2_with fail
                have ek : kn + 1 - k = nn + 1 := by have := HKN.out; omega
                rw [ek]
                have hbR := HRV.out.below hb
                have hred := reduce113 gr w3.heap.size k nn (l + 1) capr (capr - k) cv qi (some ⟨bv, ov, none⟩) Lr gv _ hro HLr.out HKL.out (by omega) HDO.out.Rd hbR HDV.out HSEP.out HES.out.qB
                rw [← HQI.out] at hred
                refine hred.mono ?_
                clear hred
                rintro e w2 ⟨bb, cc, L', rfl, hL', hro2, hF2, hR2, hgr2⟩
                have hoo2 := hoo.other hgr2 (by omega)
                have hbw2 : Below w3.heap.size w3 w2 := hb.grown hgr2 hb.size (fun x hx => by injection hx with hx; omega)
                obtain ⟨g0, gf, _, gl⟩ := hoo2.cell k (by rw [HLo.out]; omega)
                have hF2' : ∀ j, j < k ∨ k + (nn + 1) ≤ j → dl L' j = dl Lr j := hF2
                have hg3 : w3.heap.size ≤ w2.heap.size := hbw2.size
                have hkM : k < M := by omega
                clear hgr2 hro hoo hb hbR
                by_cases hbz : bb = 0
                · subst hbz
                  obtain ⟨hqlt, hD2⟩ := HDO.out.fin_ok (by omega) HDV.out HKL.out hkM hF2' HES.out hR2
                  have hQlt : 0 ≤ QI ∧ QI < 1000000000 := by have := HQI.out; omega
                  have ew : IntKind.u32.wrap QI = QI := IntWalk.u32_in _ (by omega)
                  have hset := hoo2.set k qi
                  unfold u32V at hset
                  rw [← HQI.out] at hset
                  have HS := Lib.hid hset
                  have HD2 := Lib.hid hD2
                  have HL' := Lib.hid hL'
                  clear hset hD2 hF2 hF2' hR2 hL' hqlt
                  go_wp2_with fail
                  go_roundg k
                  case measure => have := HMm.out; omega
                  case rel => exact ⟨k, L', Lo.set k qi, by omega, rfl, by first | rfl | go_num, HL'.out, by rw [List.length_set]; exact HLo.out, hro2.other (k := Go) (only_setCell (only_refl _ _) (.inl rfl) _) (by omega), HS.out.1, by rw [dl_set (by rw [HLo.out]; exact hkM)]; exact HD2.out, hbw2.setCell hGo3 _⟩
                · have db : decide (bb = 0) = false := by simpa using hbz
                  rw [db]
                  have hlt2 := fin_digits HDO.out.Rd hF2' hR2.lt
                  have hbR2 := HRV.out.below hbw2
                  obtain ⟨QP, hQP⟩ : ∃ QP : Int, QI - 1 = QP := ⟨_, rfl⟩
                  have hq1 : 1 ≤ qi := by
                    have h := hR2.done (by omega) HDV.out HES.out.qB
                    have l1 := nv_lt hR2.lt
                    have hb1 := hR2.b1
                    refine Decidable.byContradiction fun hc => ?_
                    have : qi = 0 := by omega
                    rw [this, Nat.zero_mul, show bb = 1 by omega, Nat.one_mul] at h
                    generalize (1000000000 : Nat) ^ (nn + 1) = PW at *
                    omega
                  have hQPb : 0 ≤ QP ∧ QP ≤ 1000000002 := by have := HQI.out; omega
                  have eq1 : IntKind.u64.wrap (QI - 1) = QP := by rw [hQP]; exact IntWalk.u64_in _ (by omega)
                  have hQPn : QP = ((qi - 1 : Nat) : Int) := by have := HQI.out; omega
                  have HQP := Lib.hid hQPn
                  have HR2 := Lib.hid hR2
                  have HF2 := Lib.hid hF2'
                  have HL' := Lib.hid hL'
                  have HLT2 := Lib.hid hlt2
                  have HBZ := Lib.hid hbz
                  clear hQP hQPn hR2 hF2 hF2' hL' hlt2 hbz db g0 gf gl
                  go_wp2_with fail
                  try rw [ek]
                  refine (restore114 gr w3.heap.size k nn (l + 1) capr (capr - k) cv (some ⟨bv, ov, none⟩) L' gv _ hro2 HL'.out HKL.out (by omega) HLT2.out hbR2 HDV.out HSEP.out).mono ?_
                  rintro e w5 ⟨rfl, c2', L2, hL2, hro5, hF5, hA5, hgr5⟩
                  have hoo5 := hoo2.other hgr5 (by omega)
                  have hbw5 : Below w3.heap.size w3 w5 := hbw2.grown hgr5 hbw2.size (fun x hx => by injection hx with hx; omega)
                  obtain ⟨_, hqlt, hD2⟩ := HDO.out.fin_bad (by omega) HDV.out HKL.out hkM HF2.out HES.out HR2.out HBZ.out hF5 hA5
                  have hQlt : 0 ≤ QP ∧ QP < 1000000000 := by have := HQP.out; omega
                  have ew : IntKind.u32.wrap QP = QP := IntWalk.u32_in _ (by omega)
                  obtain ⟨g0, gf, _, gl⟩ := hoo5.cell k (by rw [HLo.out]; omega)
                  have hset := hoo5.set k (qi - 1)
                  unfold u32V at hset
                  rw [← HQP.out] at hset
                  have HS := Lib.hid hset
                  have HD2 := Lib.hid hD2
                  have HL2 := Lib.hid hL2
                  clear hset hD2 hF5 hA5 hL2 hqlt hgr5 hro2 hoo2 hbw2 hbR2
                  go_wp2_with fail
                  go_roundg k
                  case measure => have := HMm.out; omega
                  case rel => exact ⟨k, L2, Lo.set k (qi - 1), by omega, rfl, by first | rfl | go_num, HL2.out, by rw [List.length_set]; exact HLo.out, hro5.other (k := Go) (only_setCell (only_refl _ _) (.inl rfl) _) (by omega), HS.out.1, by rw [dl_set (by rw [HLo.out]; exact hkM)]; exact HD2.out, hbw5.setCell hGo3 _⟩

end Go.Proofs.YtpligjkbnlfhgaaGreatDoor
