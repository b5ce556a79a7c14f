/- The reference of chapter 38: Ratio. No statement is proved here. -/
import Derived.Test.YtpligjkbnlfhgaaGreatDoorEr3
namespace Go.Proofs.YtpligjkbnlfhgaaGreatDoor
open Go.RowKit

set_option maxRecDepth 100000 in
set_option maxHeartbeats 16000000 in
theorem ratio20 (A B : Option Addr) (n ca cb : Nat) (f g : Nat → Int) (R1 R2 V1 V2 : ByteArray) (w : World) (hl : IntsV w A n ca f) (hm : IntsV w B n cb g) (hf : Fit f n) (hg : Fit g n) (h2 : 2 ≤ n) (h0 : sumF g n ≠ 0)
    (TR : Tx R1 R2 (frQ (sumF f n) (sumF g n))) (TV : Tx V1 V2 (ratV f g n)) :
    Calls Tryz.prog 20 #[.slice A n ca, .slice B n cb] w fun e w' => e = .returned (.tuple #[estV n R1 R2 V1 V2, .bool true]) ∧ Below w.heap.size w w' := by
  obtain ⟨o1, q1, rfl, hbk1, hcl1⟩ := hl.rd (by omega)
  obtain ⟨o2, q2, rfl, hbk2, hcl2⟩ := hm.rd (by omega)
  have HL1 := Lib.hid hcl1
  have HL2 := Lib.hid hcl2
  have hn5 := hf.1
  have hs := sum_fit hf
  have ht := sum_fit hg
  have h0' : (sumF g n == 0) = false := by rw [beq_eq_false_iff_ne]; exact h0
  have HF := Lib.hid hf
  have HG := Lib.hid hg
  have HO := Lib.hid (show FitB true f n from ⟨⟨fun _ => hf, fun _ => rfl⟩⟩)
  have HO' := Lib.hid (show FitB true g n from ⟨⟨fun _ => hg, fun _ => rfl⟩⟩)
  have HT := Lib.hid (And.intro TR TV)
  have H0 := Lib.hid h0
  have g0 := heap_alloc_new w (.cells #[.int .i64 0, .string ⟨#[]⟩, .string ⟨#[]⟩, .string ⟨#[]⟩, .string ⟨#[]⟩] 28)
  have hbW := below_alloc w #[.int .i64 0, .string ⟨#[]⟩, .string ⟨#[]⟩, .string ⟨#[]⟩, .string ⟨#[]⟩] 28
  have hl1 := hl.below hbW
  have hm1 := hm.below hbW
  have hI0 : FI w (w.alloc (.cells #[.int .i64 0, .string ⟨#[]⟩, .string ⟨#[]⟩, .string ⟨#[]⟩, .string ⟨#[]⟩] 28)) [] [(w.heap.size, .cells #[.int .i64 0, .string ⟨#[]⟩, .string ⟨#[]⟩, .string ⟨#[]⟩, .string ⟨#[]⟩] 28 (0, 0))] :=
    ⟨hbW, fun _ h => by simp at h, fun p h => by obtain rfl := List.mem_singleton.1 h; exact ⟨Nat.le_refl _, g0⟩, by simp⟩
  have hn2 : (2 : Int) ≤ n := by omega
  clear hcl1 hcl2 hf hg hl hm g0 TR TV h0
  go_enter Tryz.func20, Tryz.ntmps20
  go_wp2_with fail
  generalize w.alloc (.cells #[.int .i64 0, .string ⟨#[]⟩, .string ⟨#[]⟩, .string ⟨#[]⟩, .string ⟨#[]⟩] 28) = W at *
  refine (fits_at HO.out hl1).mono ?_
  rintro e w' ⟨rfl, rfl⟩
  go_wp2_with fail
  refine (fits_at HO'.out hm1).mono ?_
  rintro e w' ⟨rfl, rfl⟩
  go_wp2_with fail
  refine (sum63 _ n cb g _ hm1.rd HG.out).mono ?_
  rintro e w' ⟨rfl, rfl⟩
  go_wp2_with fail
  refine (sum63 _ n ca f _ hl1.rd HF.out).mono ?_
  rintro e w' ⟨rfl, rfl⟩
  go_wp2_with fail
  refine (sum63 _ n cb g _ hm1.rd HG.out).mono ?_
  rintro e w' ⟨rfl, rfl⟩
  go_wp2_with fail
  refine (make_fr (sumF f n) (sumF g n) _ (by omega) (by omega) (by omega) (by omega) H0.out).mono ?_
  rintro e w1 ⟨v1, rfl, h1, b1⟩
  go_wp2_with fail
  refine (mean27 _ n cb g w1 (hm1.below b1) HG.out (by omega)).mono ?_
  rintro e w2 ⟨v2, rfl, h2', b2⟩
  go_wp2_with fail
  refine (num30 0 w2 (by decide) (by decide)).mono ?_
  rintro e w3 ⟨v3, rfl, h3, b3⟩
  obtain ⟨s1, A11, n11, c11, A12, n12, c12, rfl, F1⟩ := FrR.sh h1
  obtain ⟨s2, A21, n21, c21, A22, n22, c22, rfl, F2⟩ := FrR.sh h2'
  obtain ⟨s3, A31, n31, c31, A32, n32, c32, rfl, F3⟩ := FrR.sh h3
  have F1' := (F1.below b2).below b3
  have F2' := F2.below b3
  have k1 := below_alloc w3 #[.bool s1, .slice A11 n11 c11, .slice A12 n12 c12] 57
  have k2 := below_alloc (w3.alloc (.cells #[.bool s1, .slice A11 n11 c11, .slice A12 n12 c12] 57)) #[.bool s2, .slice A21 n21 c21, .slice A22 n22 c22] 57
  have hI1 : FI w _ [(w3.heap.size, frQ (sumF f n) (sumF g n)), (w3.heap.size + 1, meanQ g n), (w3.heap.size + 1 + 1, frQ 0 1)] [(w.heap.size, .cells #[.int .i64 0, .string ⟨#[]⟩, .string ⟨#[]⟩, .string ⟨#[]⟩, .string ⟨#[]⟩] 28 (0, 0))] :=
    (((((hI0.go b1).go b2).go b3).newF w3.heap.size rfl F1').newF (w3.heap.size + 1) (by simp) (F2'.below k1)).newF (w3.heap.size + 1 + 1) (by simp) ((F3.below k1).below k2)
  clear F1 F2 F3 F1' F2' k1 k2 h1 h2' h3 hI0 b1 b2 b3 hl1 hm1 hbW
  go_wp2_with fail
  generalize ((w3.alloc (.cells #[.bool s1, .slice A11 n11 c11, .slice A12 n12 c12] 57)).alloc (.cells #[.bool s2, .slice A21 n21 c21, .slice A22 n22 c22] 57)).alloc (.cells #[.bool s3, .slice A31 n31 c31, .slice A32 n32 c32] 57) = w4 at *
  generalize w3.heap.size + 1 + 1 = NS at *
  generalize w3.heap.size + 1 = NY at *
  generalize w3.heap.size = NX at *
  rw [← sqQ_zero (sumF f n) (sumF g n) f g] at hI1
  go_loopg [9, 10] n (fun r i _ wr => ∃ k : Nat, k ≤ n ∧ r = n - k ∧ i = .int .i64 k ∧ FI w wr [(NX, frQ (sumF f n) (sumF g n)), (NY, meanQ g n), (NS, sqQ (sumF f n) (sumF g n) f g k)] [(w.heap.size, .cells #[.int .i64 0, .string ⟨#[]⟩, .string ⟨#[]⟩, .string ⟨#[]⟩, .string ⟨#[]⟩] 28 (0, 0))])
  case atStart => exact ⟨0, by omega, rfl, rfl, hI1⟩
  case round =>
    obtain ⟨k, hk, hr', rfl, hI⟩ := hrel
    have HR := Lib.hid hr'
    clear hr' hI1
    by_cases hkn : k < n
    · have hkI : (k : Int) < n := by omega
      have hfk := HF.out.2 k hkn
      have hgk := HG.out.2 k hkn
      have hE := ratE_E2 HF.out HG.out H0.out hkn
      have E1 := rs_of (elt_E2 HF.out hkn) (by omega) (by omega)
      have E2 := rs_of (elt_E2 HG.out hkn) (by omega) (by omega)
      have E3 := rs_of (ratR_E2 HF.out HG.out H0.out) (by omega) (by omega)
      have E4 := rs_of hE.1 (by omega) (by omega)
      have E5 := rs_of hE.2.1 (by omega) (by omega)
      have E6 := rs_of hE.2.2 (by omega) (by omega)
      have E7 := rs_of (sq_E2 HF.out HG.out hk (sum_fit HF.out) (sum_fit HG.out) H0.out) (by omega) (by omega)
      have hss := sqQ_succ (A := sumF f n) H0.out f g k
      have hcell : ∀ wx, Below w.heap.size w wx → wx.cell? ⟨o1, q1 + k, none⟩ = some (.int .i64 (f k)) ∧ wx.cell? ⟨o2, q2 + k, none⟩ = some (.int .i64 (g k)) := fun wx h =>
        ⟨(h.cell (p := ⟨o1, q1 + k, none⟩) hbk1).trans (HL1.out k hkn), (h.cell (p := ⟨o2, q2 + k, none⟩) hbk2).trans (HL2.out k hkn)⟩
      have HCell := Lib.hid hcell
      have HE := Lib.hid (And.intro (And.intro hfk hgk) hss)
      have HE' := Lib.hid (And.intro E1 (And.intro E2 (And.intro E3 (And.intro E4 (And.intro E5 (And.intro E6 E7))))))
      clear hcell hfk hgk hss hE E1 E2 E3 E4 E5 E6 E7
      go_upto_region 7 with fail
      have hbd : Below wr.heap.size wr wr.drew := (Below.refl _ _).drew
      have hzz : ∀ x : Beh LeW wr.drew, Below wr.heap.size wr x.w := fun x => below_trans' hbd hbd.size x.h
      obtain ⟨sX, AX1, nX1, cX1, AX2, nX2, cX2, GX, FX⟩ := hI.at NX (frQ (sumF f n) (sumF g n)) (by simp)
      have zX0 := fun x : Beh LeW wr.drew => (cells3 (blk_below (hzz x) GX)).1
      have zX1 := fun x : Beh LeW wr.drew => (cells3 (blk_below (hzz x) GX)).2.1
      have zX2 := fun x : Beh LeW wr.drew => (cells3 (blk_below (hzz x) GX)).2.2
      have ze := fun x : Beh LeW wr.drew => (HCell.out x.w (below_trans' hI.below hI.below.size (hzz x))).1
      have zf := fun x : Beh LeW wr.drew => (HCell.out x.w (below_trans' hI.below hI.below.size (hzz x))).2
      refine wp_region_late (R := LeW) 14 90 [(4, [], some (frG (frQ (f k) 1))), (10, [], some (frG (frQ (g k) 1))), (11, [62], some (frG (frQ (sumF f n) (sumF g n) * frQ (g k) 1))), (12, [56, 63], some (frG (frQ (f k) 1 - frQ (sumF f n) (sumF g n) * frQ (g k) 1))), (13, [], some (fresh wr.heap.size #[.bool false, .slice none 0 0, .slice none 0 0] 57))] (by kernel_rfl) (by kernel_rfl) (by kernel_rfl) rfl LeW.refl (fun _ _ _ => LeW.trans) ?_
      simp only [Late, List.take_succ_cons, List.drop_succ_cons, List.take_zero, List.drop_zero, Nat.reduceSub, Nat.reduceAdd, Nat.sub_zero]
      repeat (go_big_quiet_step (fail))
      refine wpQuiet_nil ?_
      refine late_fr Tryz.func30 (by kernel_rfl) (by kernel_rfl) (fun x => num30 (f k) x.w (by have := HE.out.1.1; omega) (by have := HE.out.1.1; omega)) rfl (by simp only [Act.put, List.setIfInBounds_toArray, List.set_cons_succ, List.set_cons_zero]; rfl) ?_
      simp only [List.nil_append, Option.getD_some]
      repeat (go_big_quiet_step (fail))
      refine wpQuiet_nil ?_
      refine late_fr Tryz.func30 (by kernel_rfl) (by kernel_rfl) (fun x => num30 (g k) x.w (by have := HE.out.1.2; omega) (by have := HE.out.1.2; omega)) rfl (by simp only [Act.put, List.setIfInBounds_toArray, List.set_cons_succ, List.set_cons_zero]; rfl) ?_
      simp only [List.nil_append, List.cons_append, Option.getD_some]
      refine wpQuiet_nil ?_
      refine late_fr1 [(56, frG (frQ (f k) 1))] (fun v => #[.agg #[.bool sX, .slice AX1 nX1 cX1, .slice AX2 nX2 cX2], v]) Tryz.func52 (by kernel_rfl) (by kernel_rfl) (by rfl) (fun x v hv => times68 400 (.agg #[.bool sX, .slice AX1 nX1 cX1, .slice AX2 nX2 cX2]) v (frQ (sumF f n) (sumF g n)) (frQ (g k) 1) x.w (by omega) HE'.out.2.2.1 HE'.out.2.1 (FX.below (hzz x)) hv) (fun v => by simp only [Act.put, List.setIfInBounds_toArray, List.set_cons_succ, List.set_cons_zero]; rfl) (by simp only [Act.put, List.setIfInBounds_toArray, List.set_cons_succ, List.set_cons_zero]; rfl) ?_
      simp only [List.nil_append, List.cons_append, Option.getD_some]
      refine wpQuiet_nil ?_
      refine late_fr2 [(62, frG (frQ (g k) 1))] (fun v u => #[v, u]) Tryz.func64 (by kernel_rfl) (by kernel_rfl) (by rfl) (fun x v u hv hu => minus81 400 v u (frQ (f k) 1) (frQ (sumF f n) (sumF g n) * frQ (g k) 1) x.w (by omega) HE'.out.1 HE'.out.2.2.2.1 hv hu) (fun v u => by simp only [Act.put, List.setIfInBounds_toArray, List.set_cons_succ, List.set_cons_zero]; rfl) (by simp only [Act.put, List.setIfInBounds_toArray, List.set_cons_succ, List.set_cons_zero]; rfl) ?_
      simp only [List.nil_append, List.cons_append, Option.getD_some]
      refine wpQuiet_nil ?_
      refine late_alloc (fun _ _ => by kernel_rfl) (fun x => Nat.le_trans hbd.size x.h.size) (by simp only [Act.put, List.setIfInBounds_toArray, List.set_cons_succ, List.set_cons_zero]; rfl) ?_
      refine wpQuiet_nil ?_
      intro x
      simp only [List.nil_append, List.cons_append, allGens, Option.getD_some]
      rintro r0 hr0 r1 hr1 r2 hr2 r3 hr3 vp ⟨bD, rfl, hdbD, gdbD⟩
      simp only [Act.put, List.setIfInBounds_toArray, List.set_cons_succ, List.set_cons_zero]
      obtain ⟨sR, AR1, nR1, cR1, AR2, nR2, cR2, rfl, FR⟩ := FrR.sh hr3
      have hJ := (hI.fresh (hzz x) hdbD gdbD).fill FR
      have y1 := cells3 gdbD
      have y2 := free_of_block gdbD
      have y3 := y1.1
      clear hI FR hr0 hr1 hr2 hr3 zX0 zX1 zX2 ze zf GX FX hzz gdbD hdbD
      generalize x.w = wy at *
      clear y3
      go_upto_region 8 with fail
      generalize ((wy.setCell ⟨bD, 0, none⟩ (.bool sR)).setCell ⟨bD, 1, none⟩ (.slice AR1 nR1 cR1)).setCell ⟨bD, 2, none⟩ (.slice AR2 nR2 cR2) = w5 at *
      clear y1 y2
      have hbd : Below w5.heap.size w5 w5.drew := (Below.refl _ _).drew
      have hzz : ∀ x : Beh LeW w5.drew, Below w5.heap.size w5 x.w := fun x => below_trans' hbd hbd.size x.h
      obtain ⟨sS, AS1, nS1, cS1, AS2, nS2, cS2, GS, FS⟩ := hJ.at NS (sqQ (sumF f n) (sumF g n) f g k) (by simp)
      have zS0 := fun x : Beh LeW w5.drew => (cells3 (blk_below (hzz x) GS)).1
      have zS1 := fun x : Beh LeW w5.drew => (cells3 (blk_below (hzz x) GS)).2.1
      have zS2 := fun x : Beh LeW w5.drew => (cells3 (blk_below (hzz x) GS)).2.2
      obtain ⟨sD, AD1, nD1, cD1, AD2, nD2, cD2, GD, FD⟩ := hJ.at bD (frQ (f k) 1 - frQ (sumF f n) (sumF g n) * frQ (g k) 1) (by simp)
      have zD0 := fun x : Beh LeW w5.drew => (cells3 (blk_below (hzz x) GD)).1
      have zD1 := fun x : Beh LeW w5.drew => (cells3 (blk_below (hzz x) GD)).2.1
      have zD2 := fun x : Beh LeW w5.drew => (cells3 (blk_below (hzz x) GD)).2.2
      refine wp_region_late (R := LeW) 5 90 [(3, [], some (frG ((frQ (f k) 1 - frQ (sumF f n) (sumF g n) * frQ (g k) 1) * (frQ (f k) 1 - frQ (sumF f n) (sumF g n) * frQ (g k) 1)))), (4, [68], some (frG (sqQ (sumF f n) (sumF g n) f g k + (frQ (f k) 1 - frQ (sumF f n) (sumF g n) * frQ (g k) 1) * (frQ (f k) 1 - frQ (sumF f n) (sumF g n) * frQ (g k) 1))))] (by kernel_rfl) (by kernel_rfl) (by kernel_rfl) rfl LeW.refl (fun _ _ _ => LeW.trans) ?_
      simp only [Late, List.take_succ_cons, List.drop_succ_cons, List.take_zero, List.drop_zero, Nat.reduceSub, Nat.reduceAdd, Nat.sub_zero]
      repeat (go_big_quiet_step (fail))
      refine wpQuiet_nil ?_
      refine late_fr Tryz.func52 (by kernel_rfl) (by kernel_rfl) (fun x => times68 400 (.agg #[.bool sD, .slice AD1 nD1 cD1, .slice AD2 nD2 cD2]) (.agg #[.bool sD, .slice AD1 nD1 cD1, .slice AD2 nD2 cD2]) _ _ x.w (by omega) HE'.out.2.2.2.2.1 HE'.out.2.2.2.2.1 (FD.below (hzz x)) (FD.below (hzz x))) rfl (by simp only [Act.put, List.setIfInBounds_toArray, List.set_cons_succ, List.set_cons_zero]; rfl) ?_
      simp only [List.nil_append, Option.getD_some]
      refine wpQuiet_nil ?_
      refine late_fr1 [] (fun v => #[.agg #[.bool sS, .slice AS1 nS1 cS1, .slice AS2 nS2 cS2], v]) Tryz.func65 (by kernel_rfl) (by kernel_rfl) (by rfl) (fun x v hv => plus78 400 (.agg #[.bool sS, .slice AS1 nS1 cS1, .slice AS2 nS2 cS2]) v _ _ x.w (by omega) HE'.out.2.2.2.2.2.2 HE'.out.2.2.2.2.2.1 (FS.below (hzz x)) hv) (fun v => by simp only [Act.put, List.setIfInBounds_toArray, List.set_cons_succ, List.set_cons_zero]; rfl) (by simp only [Act.put, List.setIfInBounds_toArray, List.set_cons_succ, List.set_cons_zero]; rfl) ?_
      simp only [List.nil_append, List.cons_append, Option.getD_some]
      refine wpQuiet_nil ?_
      intro x
      simp only [allGens]
      rintro r0 hr0 r1 hr1
      simp only [Act.put, List.setIfInBounds_toArray, List.set_cons_succ, List.set_cons_zero]
      obtain ⟨sR, AR1, nR1, cR1, AR2, nR2, cR2, rfl, FR⟩ := FrR.sh hr1
      have hM := (hJ.go (hzz x)).set (L1 := [(NX, frQ (sumF f n) (sumF g n)), (NY, meanQ g n)]) (L2 := [(bD, frQ (f k) 1 - frQ (sumF f n) (sumF g n) * frQ (g k) 1)]) FR
      have y1 := cells3 (blk_below (hzz x) GS)
      have y2 := free_of_block (blk_below (hzz x) GS)
      have y3 := y1.1
      clear hJ FR hr0 hr1 zS0 zS1 zS2 zD0 zD1 zD2 GS FS GD FD hzz 
      generalize x.w = wy at *
      clear y3
      go_wp2_with fail
      generalize ((wy.setCell ⟨NS, 0, none⟩ (.bool sR)).setCell ⟨NS, 1, none⟩ (.slice AR1 nR1 cR1)).setCell ⟨NS, 2, none⟩ (.slice AR2 nR2 cR2) = w6 at *
      clear y1 y2
      rw [← HE.out.2] at hM
      go_roundg (n - (k + 1))
      case measure => have := HR.out; omega
      case rel => exact ⟨k + 1, by omega, rfl, by go_num, FI.front (L1 := [(NX, frQ (sumF f n) (sumF g n)), (NY, meanQ g n), (NS, sqQ (sumF f n) (sumF g n) f g (k + 1))]) (L2 := [(bD, frQ (f k) 1 - frQ (sumF f n) (sumF g n) * frQ (g k) 1)]) hM⟩
    · have hkn' : k = n := by omega
      subst hkn'
      have hnn := nn_fit hn5 h2
      have x1 : IntKind.i64.wrap ((k : Int) - 1) = (k : Int) - 1 := IntWalk.i64_in _ (by omega)
      have x2 : IntKind.i64.wrap ((k : Int) * ((k : Int) - 1)) = (k : Int) * ((k : Int) - 1) := IntWalk.i64_in _ (by omega)
      have hD := ratD_E2 HG.out h2
      have E1 := rs_of (sq_E2 HF.out HG.out (Nat.le_refl k) (sum_fit HF.out) (sum_fit HG.out) H0.out) (by omega) (by omega)
      have E2 := rs_of (mean_E2 HG.out (by omega)) (by omega) (by omega)
      have E3 := rs_of hD.1 (by omega) (by omega)
      have E4 := rs_of hD.2 (by omega) (by omega)
      have E5 := rs_of (nn_E2 hn5 h2) (by omega) (by omega)
      have E6 := rs_of (ratR_E2 HF.out HG.out H0.out) (by omega) (by omega)
      have E7 := rs_of (ratV_E2 HF.out HG.out h2 H0.out) (by omega) (by omega)
      have HE := Lib.hid (And.intro E1 (And.intro E2 (And.intro E3 (And.intro E4 (And.intro E5 (And.intro E6 (And.intro E7 (ratD_ne (g := g) h2 H0.out))))))))
      have HNN := Lib.hid hnn
      clear E1 E2 E3 E4 E5 E6 E7 hD hnn
      go_upto_region 9 with fail
      have hbd : Below wr.heap.size wr wr.drew := (Below.refl _ _).drew
      have hzz : ∀ x : Beh LeW wr.drew, Below wr.heap.size wr x.w := fun x => below_trans' hbd hbd.size x.h
      obtain ⟨sY, AY1, nY1, cY1, AY2, nY2, cY2, GY, FY⟩ := hI.at NY (meanQ g k) (by simp)
      have zY0 := fun x : Beh LeW wr.drew => (cells3 (blk_below (hzz x) GY)).1
      have zY1 := fun x : Beh LeW wr.drew => (cells3 (blk_below (hzz x) GY)).2.1
      have zY2 := fun x : Beh LeW wr.drew => (cells3 (blk_below (hzz x) GY)).2.2
      refine wp_region_late (R := LeW) 12 90 [(6, [], some (frG (frQ ((k : Int) * ((k : Int) - 1)) 1))), (9, [], some (frG (meanQ g k * meanQ g k))), (10, [76, 79], some (frG (frQ ((k : Int) * ((k : Int) - 1)) 1 * (meanQ g k * meanQ g k)))), (11, [], some (fresh wr.heap.size #[.bool false, .slice none 0 0, .slice none 0 0] 57))] (by kernel_rfl) (by kernel_rfl) (by kernel_rfl) rfl LeW.refl (fun _ _ _ => LeW.trans) ?_
      simp only [Late, List.take_succ_cons, List.drop_succ_cons, List.take_zero, List.drop_zero, Nat.reduceSub, Nat.reduceAdd, Nat.sub_zero]
      repeat (go_big_quiet_step (fail))
      refine wpQuiet_nil ?_
      refine late_fr Tryz.func30 (by kernel_rfl) (by kernel_rfl) (fun x => num30 ((k : Int) * ((k : Int) - 1)) x.w (by have := HNN.out; omega) (by have := HNN.out; omega)) rfl (by simp only [Act.put, List.setIfInBounds_toArray, List.set_cons_succ, List.set_cons_zero]; rfl) ?_
      simp only [List.nil_append, Option.getD_some]
      repeat (go_big_quiet_step (fail))
      refine wpQuiet_nil ?_
      refine late_fr Tryz.func52 (by kernel_rfl) (by kernel_rfl) (fun x => times68 400 (.agg #[.bool sY, .slice AY1 nY1 cY1, .slice AY2 nY2 cY2]) (.agg #[.bool sY, .slice AY1 nY1 cY1, .slice AY2 nY2 cY2]) _ _ x.w (by omega) HE.out.2.1 HE.out.2.1 (FY.below (hzz x)) (FY.below (hzz x))) rfl (by simp only [Act.put, List.setIfInBounds_toArray, List.set_cons_succ, List.set_cons_zero]; rfl) ?_
      simp only [List.nil_append, List.cons_append, Option.getD_some]
      refine wpQuiet_nil ?_
      refine late_fr2 [] (fun v u => #[v, u]) Tryz.func52 (by kernel_rfl) (by kernel_rfl) (by rfl) (fun x v u hv hu => times68 400 v u _ _ x.w (by omega) HE.out.2.2.2.2.1 HE.out.2.2.1 hv hu) (fun v u => by simp only [Act.put, List.setIfInBounds_toArray, List.set_cons_succ, List.set_cons_zero]; rfl) (by simp only [Act.put, List.setIfInBounds_toArray, List.set_cons_succ, List.set_cons_zero]; rfl) ?_
      simp only [List.nil_append, List.cons_append, Option.getD_some]
      refine wpQuiet_nil ?_
      refine late_alloc (fun _ _ => by kernel_rfl) (fun x => Nat.le_trans hbd.size x.h.size) (by simp only [Act.put, List.setIfInBounds_toArray, List.set_cons_succ, List.set_cons_zero]; rfl) ?_
      refine wpQuiet_nil ?_
      intro x
      simp only [List.nil_append, List.cons_append, allGens, Option.getD_some]
      rintro r0 hr0 r1 hr1 r2 hr2 vp ⟨bQ, rfl, hdbQ, gdbQ⟩
      simp only [Act.put, List.setIfInBounds_toArray, List.set_cons_succ, List.set_cons_zero]
      obtain ⟨sR, AR1, nR1, cR1, AR2, nR2, cR2, rfl, FR⟩ := FrR.sh hr2
      have hJ := (hI.fresh (hzz x) hdbQ gdbQ).fill FR
      have y1 := cells3 gdbQ
      have y2 := free_of_block gdbQ
      have y3 := y1.1
      clear hI FR hr0 hr1 hr2 zY0 zY1 zY2 GY FY hzz gdbQ hdbQ
      generalize x.w = wy at *
      clear y3
      go_upto_region 10 with fail
      generalize ((wy.setCell ⟨bQ, 0, none⟩ (.bool sR)).setCell ⟨bQ, 1, none⟩ (.slice AR1 nR1 cR1)).setCell ⟨bQ, 2, none⟩ (.slice AR2 nR2 cR2) = w5 at *
      clear y1 y2
      have hbd : Below w5.heap.size w5 w5.drew := (Below.refl _ _).drew
      have hzz : ∀ x : Beh LeW w5.drew, Below w5.heap.size w5 x.w := fun x => below_trans' hbd hbd.size x.h
      obtain ⟨sX, AX1, nX1, cX1, AX2, nX2, cX2, GX, FX⟩ := hJ.at NX (frQ (sumF f k) (sumF g k)) (by simp)
      have zX0 := fun x : Beh LeW w5.drew => (cells3 (blk_below (hzz x) GX)).1
      have zX1 := fun x : Beh LeW w5.drew => (cells3 (blk_below (hzz x) GX)).2.1
      have zX2 := fun x : Beh LeW w5.drew => (cells3 (blk_below (hzz x) GX)).2.2
      obtain ⟨sS, AS1, nS1, cS1, AS2, nS2, cS2, GS, FS⟩ := hJ.at NS (sqQ (sumF f k) (sumF g k) f g k) (by simp)
      have zS0 := fun x : Beh LeW w5.drew => (cells3 (blk_below (hzz x) GS)).1
      have zS1 := fun x : Beh LeW w5.drew => (cells3 (blk_below (hzz x) GS)).2.1
      have zS2 := fun x : Beh LeW w5.drew => (cells3 (blk_below (hzz x) GS)).2.2
      obtain ⟨sQ, AQ1, nQ1, cQ1, AQ2, nQ2, cQ2, GQ, FQ⟩ := hJ.at bQ (frQ ((k : Int) * ((k : Int) - 1)) 1 * (meanQ g k * meanQ g k)) (by simp)
      have zQ0 := fun x : Beh LeW w5.drew => (cells3 (blk_below (hzz x) GQ)).1
      have zQ1 := fun x : Beh LeW w5.drew => (cells3 (blk_below (hzz x) GQ)).2.1
      have zQ2 := fun x : Beh LeW w5.drew => (cells3 (blk_below (hzz x) GQ)).2.2
      refine wp_region_late (R := LeW) 9 90 [(5, [], some (frG (sqQ (sumF f k) (sumF g k) f g k / (frQ ((k : Int) * ((k : Int) - 1)) 1 * (meanQ g k * meanQ g k))))), (6, [86], none)] (by kernel_rfl) (by kernel_rfl) (by kernel_rfl) rfl LeW.refl (fun _ _ _ => LeW.trans) ?_
      simp only [Late, List.take_succ_cons, List.drop_succ_cons, List.take_zero, List.drop_zero, Nat.reduceSub, Nat.reduceAdd, Nat.sub_zero]
      repeat (go_big_quiet_step (fail))
      refine wpQuiet_nil ?_
      refine late_fr Tryz.func28 (by kernel_rfl) (by kernel_rfl) (fun x => over83 400 (.agg #[.bool sS, .slice AS1 nS1 cS1, .slice AS2 nS2 cS2]) (.agg #[.bool sQ, .slice AQ1 nQ1 cQ1, .slice AQ2 nQ2 cQ2]) _ _ x.w (by omega) HE.out.2.2.2.2.2.2.2 HE.out.1 HE.out.2.2.2.1 (FS.below (hzz x)) (FQ.below (hzz x))) rfl (by simp only [Act.put, List.setIfInBounds_toArray, List.set_cons_succ, List.set_cons_zero]; rfl) ?_
      simp only [List.nil_append, Option.getD_some]
      refine wpQuiet_nil ?_
      refine late_val1 [] (fun v => #[.int .i64 k, .agg #[.bool sX, .slice AX1 nX1 cX1, .slice AX2 nX2 cX2], v]) Tryz.func26 (by kernel_rfl) (by kernel_rfl) (by rfl) (fun x v hv => est26 k (.agg #[.bool sX, .slice AX1 nX1 cX1, .slice AX2 nX2 cX2]) v _ _ R1 R2 V1 V2 x.w HE.out.2.2.2.2.2.1 HE.out.2.2.2.2.2.2.1 (FX.below (hzz x)) hv HT.out.1 HT.out.2) (fun v => by simp only [Act.put, List.setIfInBounds_toArray, List.set_cons_succ, List.set_cons_zero]; rfl) (by simp only [Act.put, List.setIfInBounds_toArray, List.set_cons_succ, List.set_cons_zero]; rfl) ?_
      simp only [List.nil_append]
      repeat (go_big_quiet_step (fail))
      refine wpQuiet_nil ?_
      intro x
      simp only [allGens]
      rintro r0 hr0
      simp only [Act.put, List.setIfInBounds_toArray, List.set_cons_succ, List.set_cons_zero]
      have hT := ((hJ.go (hzz x)).ob _ (List.mem_cons_self ..))
      have hbe := below_sets5 (hJ.go (hzz x)).below hT.1 (.int .i64 k) (.string R1) (.string R2) (.string V1) (.string V2)
      obtain ⟨u0, u1, u2, u3, u4⟩ := cells5 (set5 hT.2 (.int .i64 k) (.string R1) (.string R2) (.string V1) (.string V2))
      have y1 := cells5 hT.2
      have y2 := free_of_block hT.2
      clear hJ hr0 hzz GX FX GS FS GQ FQ zX0 zX1 zX2 zS0 zS1 zS2 zQ0 zQ1 zQ2 hT hbd x1 x2
      generalize x.w = wy at *
      go_wp2_with fail
      exact bodyPost_ret (v := .tuple #[estV k R1 R2 V1 V2, .bool true]) (by simp [results, Tryz.results20, go_sem, u0, u1, u2, u3, u4]) rfl ⟨rfl, hbe⟩
end Go.Proofs.YtpligjkbnlfhgaaGreatDoor
