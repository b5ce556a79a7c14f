/- The reference of chapter 38: Adjusted. No statement is proved here. -/
import Derived.Test.YtpligjkbnlfhgaaGreatDoorEr5
import Derived.Test.YtpligjkbnlfhgaaGreatDoorEstS
namespace Go.Proofs.YtpligjkbnlfhgaaGreatDoor
open Go.RowKit

theorem zero_at {w : World} {f : Value} {x : Rat} (h : FrR w f x) : Calls Tryz.prog 67 #[f] w fun e w' => e = .returned (.bool (decide (x = 0))) ∧ Below w.heap.size w w' := zero82 f x w h
theorem read_tx {C1 C2 : ByteArray} {c : Rat} (h : Tx C1 C2 c) (w : World) : Calls Tryz.prog 50 #[.agg #[.string C1, .string C2]] w fun e w' => ∃ s A1 n1 c1 A2 n2 c2, e = .returned (.tuple #[.agg #[.bool s, .slice A1 n1 c1, .slice A2 n2 c2], .bool true]) ∧ FrR w' (.agg #[.bool s, .slice A1 n1 c1, .slice A2 n2 c2]) c ∧ Below w.heap.size w w' := by
  refine (read66 C1 C2 w h.lens.1 h.lens.2).mono ?_
  rintro e w' ⟨s, A1, n1, c1, A2, n2, c2, rfl, h1, h2⟩
  have hr := h.rd
  exact ⟨s, A1, n1, c1, A2, n2, c2, by rw [hr]; rfl, h1 c hr, h2⟩

set_option maxRecDepth 100000 in
set_option maxHeartbeats 32000000 in
theorem adj22 (A B : Option Addr) (n ca cb : Nat) (f g : Nat → Int) (cen : Rat) (C1 C2 M1 M2 V1 V2 : ByteArray) (w : World) (hl : IntsV w A n ca f) (hm : IntsV w B n cb g) (hf : Fit f n) (hg : Fit g n) (h2 : 2 ≤ n)
    (TC : Tx C1 C2 cen) (hc1 : C1.size ≤ 50) (hc2 : C2.size ≤ 50) (TM : Tx M1 M2 (adjM f g n cen)) (TV : Tx V1 V2 (adjV f g n)) :
    Calls Tryz.prog 22 #[.slice A n ca, .slice B n cb, .agg #[.string C1, .string C2]] w fun e w' => e = .returned (.tuple #[estV n M1 M2 V1 V2, .bool true]) ∧ Below w.heap.size w w' := by
  obtain ⟨o1, q1, rfl, hbk1, hcl1⟩ := hl.rd (by omega)
  obtain ⟨o2, q2, rfl, hbk2, hcl2⟩ := hm.rd (by omega)
  have HL1 := Lib.hid hcl1
  have HL2 := Lib.hid hcl2
  have hn5 := hf.1
  have hs := sum_fit hf
  have ht := sum_fit hg
  have HF := Lib.hid hf
  have HG := Lib.hid hg
  have HO := Lib.hid (show FitB true f n from ⟨⟨fun _ => hf, fun _ => rfl⟩⟩)
  have HO' := Lib.hid (show FitB true g n from ⟨⟨fun _ => hg, fun _ => rfl⟩⟩)
  have HT := Lib.hid (And.intro TC (And.intro TM TV))
  have HIl := Lib.hid hl
  have HIm := Lib.hid hm
  have EC := rs_of (cen_E2 TC hc1 hc2) (by omega) (by omega)
  have ET := rs_of (t_E2 hf hg h2) (by omega) (by omega)
  have EV := rs_of (cov_E2 hg hg h2) (by omega) (by omega)
  have EB := rs_of (cov_E2 hf hg h2) (by omega) (by omega)
  have EMf := rs_of (mean_E2 hf (by omega)) (by omega) (by omega)
  have EMg := rs_of (mean_E2 hg (by omega)) (by omega) (by omega)
  have hA := adjM_E2 hf hg h2 (cen_E2 TC hc1 hc2)
  have EA1 := rs_of hA.1 (by omega) (by omega)
  have EA2 := rs_of hA.2.1 (by omega) (by omega)
  have EA3 := rs_of hA.2.2 (by omega) (by omega)
  have HE := Lib.hid (And.intro EC (And.intro ET (And.intro EV (And.intro EB (And.intro EMf (And.intro EMg (And.intro EA1 (And.intro EA2 EA3))))))))
  have hc1I : (C1.size : Int) ≤ 50 := by omega
  have hc2I : (C2.size : Int) ≤ 50 := by omega
  obtain ⟨hbW, g0, g1⟩ := allocs2' w #[.string C1, .string C2] #[.int .i64 0, .string ⟨#[]⟩, .string ⟨#[]⟩, .string ⟨#[]⟩, .string ⟨#[]⟩] 26 28
  have hI0 : FI w ((w.alloc (.cells #[.string C1, .string C2] 26)).alloc (.cells #[.int .i64 0, .string ⟨#[]⟩, .string ⟨#[]⟩, .string ⟨#[]⟩, .string ⟨#[]⟩] 28)) [] [(w.heap.size + 1, .cells #[.int .i64 0, .string ⟨#[]⟩, .string ⟨#[]⟩, .string ⟨#[]⟩, .string ⟨#[]⟩] 28 (0, 0)), (w.heap.size, .cells #[.string C1, .string C2] 26 (0, 0))] :=
    ⟨hbW, fun _ h => by simp at h, fun p h => by
      rcases List.mem_cons.1 h with rfl | h
      · exact ⟨by simp, g1⟩
      · obtain rfl := List.mem_singleton.1 h
        exact ⟨Nat.le_refl _, g0⟩, by simp⟩
  have k0 := cells2 g0
  have hn2 : (2 : Int) ≤ n := by omega
  clear hcl1 hcl2 hf hg hl hm TC TM TV EC ET EV EB EMf EMg EA1 EA2 EA3 hA g1
  go_enter Tryz.func22, Tryz.ntmps22
  go_wp2_with fail
  generalize (w.alloc (.cells #[.string C1, .string C2] 26)).alloc (.cells #[.int .i64 0, .string ⟨#[]⟩, .string ⟨#[]⟩, .string ⟨#[]⟩, .string ⟨#[]⟩] 28) = W at *
  refine (read_tx HT.out.1 W).mono ?_
  rintro e w1 ⟨s1, A11, n11, c11, A12, n12, c12, rfl, F1, b1⟩
  have hI1 := (hI0.go b1).newF w1.heap.size rfl F1
  have b2 := below_trans' b1 b1.size (below_alloc w1 #[.bool s1, .slice A11 n11 c11, .slice A12 n12 c12] 57)
  have k1 := cells2 (blk_below b2 g0)
  have hl1 := HIl.out.below (below_trans' hbW hbW.size b2)
  have hm1 := HIm.out.below (below_trans' hbW hbW.size b2)
  have hlt1 : w.heap.size < w1.heap.size := lt_of_blk (blk_below b1 g0)
  clear k0 g0 hI0 b1 b2 F1 hbW
  go_wp2_with fail
  generalize w1.alloc (.cells #[.bool s1, .slice A11 n11 c11, .slice A12 n12 c12] 57) = w2 at *
  generalize w1.heap.size = NC at *
  refine (fits_at HO.out hl1).mono ?_
  rintro e w' ⟨rfl, rfl⟩
  go_wp2_with fail
  refine (fits_at HO'.out hm1).mono ?_
  rintro e w' ⟨rfl, rfl⟩
  go_wp2_with fail
  refine (num30 0 _ (by decide) (by decide)).mono ?_
  rintro e w3 ⟨v3, rfl, h3, b3⟩
  go_wp2_with fail
  refine (covr29 _ _ n cb cb g g w3 (hm1.below b3) (hm1.below b3) HG.out HG.out h2).mono ?_
  rintro e w4 ⟨v4, rfl, h4, b4⟩
  obtain ⟨s3, A31, n31, c31, A32, n32, c32, rfl, F3⟩ := FrR.sh h3
  obtain ⟨s4, A41, n41, c41, A42, n42, c42, rfl, F4⟩ := FrR.sh h4
  have p1 := below_alloc w4 #[.bool s3, .slice A31 n31 c31, .slice A32 n32 c32] 57
  have hI2 : FI w _ [(NC, cen), (w4.heap.size, frQ 0 1), (w4.heap.size + 1, covQ g g n)] [(w.heap.size + 1, .cells #[.int .i64 0, .string ⟨#[]⟩, .string ⟨#[]⟩, .string ⟨#[]⟩, .string ⟨#[]⟩] 28 (0, 0)), (w.heap.size, .cells #[.string C1, .string C2] 26 (0, 0))] :=
    (((hI1.go b3).go b4).newF w4.heap.size rfl (F3.below b4)).newF (w4.heap.size + 1) (by simp) (F4.below p1)
  clear F3 F4 h3 h4 p1 b3 b4 hI1 hl1 hm1 k1 hlt1
  go_upto_region 5 with fail
  generalize (w4.alloc (.cells #[.bool s3, .slice A31 n31 c31, .slice A32 n32 c32] 57)).alloc (.cells #[.bool s4, .slice A41 n41 c41, .slice A42 n42 c42] 57) = w5 at *
  generalize w4.heap.size + 1 = NV at *
  generalize w4.heap.size = NT at *
  obtain ⟨sV, AV1, nV1, cV1, AV2, nV2, cV2, GV, FV'⟩ := hI2.at NV (covQ g g n) (by simp)
  have y0 := cells3 GV
  go_wp2_with fail
  refine (zero_at FV').mono ?_
  rintro e w6 ⟨rfl, b6⟩
  have hI3 := hI2.go b6
  clear hI2 GV FV' y0 b6
  generalize hbz : decide (covQ g g n = 0) = bz
  have HBZ := Lib.hid hbz
  clear hbz
  go_upto_if 68 with fail
  go_cut [10] (fun s10 wx => s10 = .pointer (some ⟨NT, 0, none⟩) ∧ FI w wx [(NC, cen), (NT, tQ f g n), (NV, covQ g g n)] [(w.heap.size + 1, .cells #[.int .i64 0, .string ⟨#[]⟩, .string ⟨#[]⟩, .string ⟨#[]⟩, .string ⟨#[]⟩] 28 (0, 0)), (w.heap.size, .cells #[.string C1, .string C2] 26 (0, 0))])
  case first =>
    by_cases hz : covQ g g n = 0
    · have e1 : bz = true := by rw [← HBZ.out]; simp [hz]
      subst e1
      have hT : tQ f g n = frQ 0 1 := by unfold tQ; rw [if_pos hz]
      rw [← hT] at hI3
      go_wp2_with fail
      go_meet
      case rel => exact ⟨rfl, hI3⟩
    · have e1 : bz = false := by rw [← HBZ.out]; simp [hz]
      subst e1
      have hT : tQ f g n = covQ f g n / covQ g g n := by unfold tQ; rw [if_neg hz]
      have HZ := Lib.hid (And.intro hz hT)
      clear hz hT
      go_upto_region 6 with fail
      have hbd : Below w6.heap.size w6 w6.drew := (Below.refl _ _).drew
      have hzz : ∀ x : Beh LeW w6.drew, Below w6.heap.size w6 x.w := fun x => below_trans' hbd hbd.size x.h
      obtain ⟨sT, AT1, nT1, cT1, AT2, nT2, cT2, GT, FT⟩ := hI3.at NT (frQ 0 1) (by simp)
      have zT0 := fun x : Beh LeW w6.drew => (cells3 (blk_below (hzz x) GT)).1
      have zT1 := fun x : Beh LeW w6.drew => (cells3 (blk_below (hzz x) GT)).2.1
      have zT2 := fun x : Beh LeW w6.drew => (cells3 (blk_below (hzz x) GT)).2.2
      obtain ⟨sV, AV1, nV1, cV1, AV2, nV2, cV2, GV, FV⟩ := hI3.at NV (covQ g g n) (by simp)
      have zV0 := fun x : Beh LeW w6.drew => (cells3 (blk_below (hzz x) GV)).1
      have zV1 := fun x : Beh LeW w6.drew => (cells3 (blk_below (hzz x) GV)).2.1
      have zV2 := fun x : Beh LeW w6.drew => (cells3 (blk_below (hzz x) GV)).2.2
      refine wp_region_late (R := LeW) 5 148 [(2, [], some (frG (covQ f g n))), (4, [71], some (frG (covQ f g n / covQ g g n)))] (by kernel_rfl) (by kernel_rfl) (by kernel_rfl) rfl LeW.refl (fun _ _ _ => LeW.trans) ?_
      simp only [Late, List.take_succ_cons, List.drop_succ_cons, List.take_zero, List.drop_zero, Nat.reduceSub, Nat.reduceAdd, Nat.sub_zero]
      repeat (go_big_quiet_step (fail))
      refine wpQuiet_nil ?_
      refine late_fr Tryz.func29 (by kernel_rfl) (by kernel_rfl) (fun x => covr29 _ _ n ca cb f g x.w (HIl.out.below (below_trans' hI3.below hI3.below.size (hzz x))) (HIm.out.below (below_trans' hI3.below hI3.below.size (hzz x))) HF.out HG.out h2) rfl (by simp only [Act.put, List.setIfInBounds_toArray, List.set_cons_succ, List.set_cons_zero]; rfl) ?_
      simp only [List.nil_append, Option.getD_some]
      repeat (go_big_quiet_step (fail))
      refine wpQuiet_nil ?_
      refine late_fr1 [] (fun v => #[v, .agg #[.bool sV, .slice AV1 nV1 cV1, .slice AV2 nV2 cV2]]) Tryz.func28 (by kernel_rfl) (by kernel_rfl) (by rfl) (fun x v hv => over83 400 v (.agg #[.bool sV, .slice AV1 nV1 cV1, .slice AV2 nV2 cV2]) (covQ f g n) (covQ g g n) x.w (by omega) HZ.out.1 HE.out.2.2.2.1 HE.out.2.2.1 hv (FV.below (hzz x))) (fun v => by simp only [Act.put, List.setIfInBounds_toArray, List.set_cons_succ, List.set_cons_zero]; rfl) (by simp only [Act.put, List.setIfInBounds_toArray, List.set_cons_succ, List.set_cons_zero]; rfl) ?_
      simp only [List.nil_append, List.cons_append, Option.getD_some]
      refine wpQuiet_nil ?_
      intro x
      simp only [allGens]
      rintro r0 hr0 r1 hr1
      simp only [Act.put, List.setIfInBounds_toArray, List.set_cons_succ, List.set_cons_zero]
      obtain ⟨sR, AR1, nR1, cR1, AR2, nR2, cR2, rfl, FR⟩ := FrR.sh hr1
      have hJ := (hI3.go (hzz x)).set (L1 := [(NC, cen)]) (L2 := [(NV, covQ g g n)]) FR
      have y1 := cells3 (blk_below (hzz x) GT)
      have y2 := free_of_block (blk_below (hzz x) GT)
      have y3 := y1.1
      clear hI3 FR hr0 hr1 zT0 zT1 zT2 zV0 zV1 zV2 GT FT GV FV hzz 
      generalize x.w = wy at *
      clear y3
      go_wp2_with fail
      generalize ((wy.setCell ⟨NT, 0, none⟩ (.bool sR)).setCell ⟨NT, 1, none⟩ (.slice AR1 nR1 cR1)).setCell ⟨NT, 2, none⟩ (.slice AR2 nR2 cR2) = w8 at *
      clear y1 y2
      rw [← HZ.out.2] at hJ
      go_meet
      case rel => exact ⟨rfl, hJ⟩
  case rest =>
    obtain ⟨rfl, hI⟩ := hcut
    clear hI3
    go_upto_region 7 with fail
    have hbd : Below wc.heap.size wc wc.drew := (Below.refl _ _).drew
    have hzz : ∀ x : Beh LeW wc.drew, Below wc.heap.size wc x.w := fun x => below_trans' hbd hbd.size x.h
    obtain ⟨sT, AT1, nT1, cT1, AT2, nT2, cT2, GT, FT⟩ := hI.at NT (tQ f g n) (by simp)
    have zT0 := fun x : Beh LeW wc.drew => (cells3 (blk_below (hzz x) GT)).1
    have zT1 := fun x : Beh LeW wc.drew => (cells3 (blk_below (hzz x) GT)).2.1
    have zT2 := fun x : Beh LeW wc.drew => (cells3 (blk_below (hzz x) GT)).2.2
    obtain ⟨sC, AC1, nC1, cC1, AC2, nC2, cC2, GC, FC⟩ := hI.at NC (cen) (by simp)
    have zC0 := fun x : Beh LeW wc.drew => (cells3 (blk_below (hzz x) GC)).1
    have zC1 := fun x : Beh LeW wc.drew => (cells3 (blk_below (hzz x) GC)).2.1
    have zC2 := fun x : Beh LeW wc.drew => (cells3 (blk_below (hzz x) GC)).2.2
    refine wp_region_late (R := LeW) 10 148 [(1, [], some (frG (meanQ f n))), (4, [], some (frG (meanQ g n))), (6, [78], some (frG (meanQ g n - cen))), (7, [80], some (frG (tQ f g n * (meanQ g n - cen)))), (8, [75, 81], some (frG (meanQ f n - tQ f g n * (meanQ g n - cen)))), (9, [], some (fresh wc.heap.size #[.bool false, .slice none 0 0, .slice none 0 0] 57))] (by kernel_rfl) (by kernel_rfl) (by kernel_rfl) rfl LeW.refl (fun _ _ _ => LeW.trans) ?_
    simp only [Late, List.take_succ_cons, List.drop_succ_cons, List.take_zero, List.drop_zero, Nat.reduceSub, Nat.reduceAdd, Nat.sub_zero]
    repeat (go_big_quiet_step (fail))
    refine wpQuiet_nil ?_
    refine late_fr Tryz.func27 (by kernel_rfl) (by kernel_rfl) (fun x => mean27 _ n ca f x.w (HIl.out.below (below_trans' hI.below hI.below.size (hzz x))) HF.out (by omega)) rfl (by simp only [Act.put, List.setIfInBounds_toArray, List.set_cons_succ, List.set_cons_zero]; rfl) ?_
    simp only [List.nil_append, Option.getD_some]
    repeat (go_big_quiet_step (fail))
    refine wpQuiet_nil ?_
    refine late_fr Tryz.func27 (by kernel_rfl) (by kernel_rfl) (fun x => mean27 _ n cb g x.w (HIm.out.below (below_trans' hI.below hI.below.size (hzz x))) HG.out (by omega)) rfl (by simp only [Act.put, List.setIfInBounds_toArray, List.set_cons_succ, List.set_cons_zero]; rfl) ?_
    simp only [List.nil_append, List.cons_append, Option.getD_some]
    repeat (go_big_quiet_step (fail))
    refine wpQuiet_nil ?_
    refine late_fr1 [(75, frG (meanQ f n))] (fun v => #[v, .agg #[.bool sC, .slice AC1 nC1 cC1, .slice AC2 nC2 cC2]]) Tryz.func64 (by kernel_rfl) (by kernel_rfl) (by rfl) (fun x v hv => minus81 400 v (.agg #[.bool sC, .slice AC1 nC1 cC1, .slice AC2 nC2 cC2]) (meanQ g n) cen x.w (by omega) HE.out.2.2.2.2.2.1 HE.out.1 hv (FC.below (hzz x))) (fun v => by simp only [Act.put, List.setIfInBounds_toArray, List.set_cons_succ, List.set_cons_zero]; rfl) (by simp only [Act.put, List.setIfInBounds_toArray, List.set_cons_succ, List.set_cons_zero]; rfl) ?_
    simp only [List.nil_append, List.cons_append, Option.getD_some]
    refine wpQuiet_nil ?_
    refine late_fr1 [(75, frG (meanQ f n)), (78, frG (meanQ g n))] (fun v => #[.agg #[.bool sT, .slice AT1 nT1 cT1, .slice AT2 nT2 cT2], v]) Tryz.func52 (by kernel_rfl) (by kernel_rfl) (by rfl) (fun x v hv => times68 400 (.agg #[.bool sT, .slice AT1 nT1 cT1, .slice AT2 nT2 cT2]) v (tQ f g n) (meanQ g n - cen) x.w (by omega) HE.out.2.1 HE.out.2.2.2.2.2.2.1 (FT.below (hzz x)) hv) (fun v => by simp only [Act.put, List.setIfInBounds_toArray, List.set_cons_succ, List.set_cons_zero]; rfl) (by simp only [Act.put, List.setIfInBounds_toArray, List.set_cons_succ, List.set_cons_zero]; rfl) ?_
    simp only [List.nil_append, List.cons_append, Option.getD_some]
    refine wpQuiet_nil ?_
    refine late_fr2 [(78, frG (meanQ g n)), (80, frG (meanQ g n - cen))] (fun v u => #[v, u]) Tryz.func64 (by kernel_rfl) (by kernel_rfl) (by rfl) (fun x v u hv hu => minus81 400 v u (meanQ f n) (tQ f g n * (meanQ g n - cen)) x.w (by omega) HE.out.2.2.2.2.1 HE.out.2.2.2.2.2.2.2.1 hv hu) (fun v u => by simp only [Act.put, List.setIfInBounds_toArray, List.set_cons_succ, List.set_cons_zero]; rfl) (by simp only [Act.put, List.setIfInBounds_toArray, List.set_cons_succ, List.set_cons_zero]; rfl) ?_
    simp only [List.nil_append, List.cons_append, Option.getD_some]
    refine wpQuiet_nil ?_
    refine late_alloc (fun _ _ => by kernel_rfl) (fun x => Nat.le_trans hbd.size x.h.size) (by simp only [Act.put, List.setIfInBounds_toArray, List.set_cons_succ, List.set_cons_zero]; rfl) ?_
    refine wpQuiet_nil ?_
    intro x
    simp only [List.nil_append, List.cons_append, allGens, Option.getD_some]
    rintro r0 hr0 r1 hr1 r2 hr2 r3 hr3 r4 hr4 vp ⟨bM, rfl, hdbM, gdbM⟩
    simp only [Act.put, List.setIfInBounds_toArray, List.set_cons_succ, List.set_cons_zero]
    obtain ⟨sR, AR1, nR1, cR1, AR2, nR2, cR2, rfl, FR⟩ := FrR.sh hr4
    have hJ := (hI.fresh (hzz x) hdbM gdbM).fill FR
    have y1 := cells3 gdbM
    have y2 := free_of_block gdbM
    have y3 := y1.1
    clear hI FR hr0 hr1 hr2 hr3 hr4 zT0 zT1 zT2 zC0 zC1 zC2 GT FT GC FC hzz gdbM hdbM
    generalize x.w = wy at *
    clear y3
    go_wp2_with fail
    generalize ((wy.setCell ⟨bM, 0, none⟩ (.bool sR)).setCell ⟨bM, 1, none⟩ (.slice AR1 nR1 cR1)).setCell ⟨bM, 2, none⟩ (.slice AR2 nR2 cR2) = w8 at *
    clear y1 y2
    refine (num30 0 _ (by decide) (by decide)).mono ?_
    rintro e w9 ⟨v9, rfl, h9, b9⟩
    go_wp2_with fail
    refine (num30 0 _ (by decide) (by decide)).mono ?_
    rintro e w10 ⟨v10, rfl, h10, b10⟩
    obtain ⟨s5, A51, n51, c51, A52, n52, c52, rfl, F5⟩ := FrR.sh h9
    obtain ⟨s6, A61, n61, c61, A62, n62, c62, rfl, F6⟩ := FrR.sh h10
    have p1 := below_alloc w10 #[.bool s5, .slice A51 n51 c51, .slice A52 n52 c52] 57
    have hI4 : FI w _ [(NC, cen), (NT, tQ f g n), (NV, covQ g g n), (bM, adjM f g n cen), (w10.heap.size, frQ 0 1), (w10.heap.size + 1, frQ 0 1)] [(w.heap.size + 1, .cells #[.int .i64 0, .string ⟨#[]⟩, .string ⟨#[]⟩, .string ⟨#[]⟩, .string ⟨#[]⟩] 28 (0, 0)), (w.heap.size, .cells #[.string C1, .string C2] 26 (0, 0))] :=
      (((hJ.go b9).go b10).newF w10.heap.size rfl (F5.below b10)).newF (w10.heap.size + 1) (by simp) (F6.below p1)
    clear F5 F6 h9 h10 p1 b9 b10 hJ
    go_wp2_with fail
    generalize (w10.alloc (.cells #[.bool s5, .slice A51 n51 c51, .slice A52 n52 c52] 57)).alloc (.cells #[.bool s6, .slice A61 n61 c61, .slice A62 n62 c62] 57) = w11 at *
    generalize w10.heap.size + 1 = NS at *
    generalize w10.heap.size = NX at *
    have hI5 : FI w w11 [(NC, cen), (NT, tQ f g n), (NV, covQ g g n), (bM, adjM f g n cen), (NX, midQ f g n 0), (NS, frQ 0 1)] [(w.heap.size + 1, .cells #[.int .i64 0, .string ⟨#[]⟩, .string ⟨#[]⟩, .string ⟨#[]⟩, .string ⟨#[]⟩] 28 (0, 0)), (w.heap.size, .cells #[.string C1, .string C2] 26 (0, 0))] := by rw [mid_zero]; exact hI4
    have hR5 := FR.start hI5 (restQ f g n)
    clear hI4 hI5
    go_loopg [13, 16, 17] n (fun r v i _ wr => ∃ (k : Nat) (xs : List FV), k ≤ n ∧ r = n - k ∧ i = .int .i64 k ∧ xs.length = k ∧ FR w wr [(NC, cen), (NT, tQ f g n), (NV, covQ g g n), (bM, adjM f g n cen), (NX, midQ f g n k), (NS, frQ 0 1)] [(w.heap.size + 1, .cells #[.int .i64 0, .string ⟨#[]⟩, .string ⟨#[]⟩, .string ⟨#[]⟩, .string ⟨#[]⟩] 28 (0, 0)), (w.heap.size, .cells #[.string C1, .string C2] 26 (0, 0))] v xs (restQ f g n))
    case atStart => exact ⟨0, [], by omega, rfl, rfl, rfl, hR5⟩
    case round =>
      obtain ⟨k, xs, hk, hr', rfl, hxs, hI⟩ := hrel
      have HR := Lib.hid hr'
      have HXS := Lib.hid hxs
      clear hr' hR5 hxs
      by_cases hkn : k < n
      · have hkI : (k : Int) < n := by omega
        have hfk := HF.out.2 k hkn
        have hgk := HG.out.2 k hkn
        have hE := rest_E2 HF.out HG.out h2 hkn
        have E1 := rs_of (elt_E2 HF.out hkn) (by omega) (by omega)
        have E2 := rs_of hE.1 (by omega) (by omega)
        have E3 := rs_of hE.2.1 (by omega) (by omega)
        have E4 := rs_of hE.2.2 (by omega) (by omega)
        have E5 := rs_of (mid_E2 HF.out HG.out h2 hk) (by omega) (by omega)
        have hcell : ∀ wx, Below w.heap.size w wx → wx.cell? ⟨o1, q1 + k, none⟩ = some (.int .i64 (f k)) ∧ wx.cell? ⟨o2, q2 + k, none⟩ = some (.int .i64 (g k)) := fun wx h =>
          ⟨(h.cell (p := ⟨o1, q1 + k, none⟩) hbk1).trans (HL1.out k hkn), (h.cell (p := ⟨o2, q2 + k, none⟩) hbk2).trans (HL2.out k hkn)⟩
        have HCell := Lib.hid hcell
        have HK := Lib.hid (And.intro (And.intro hfk hgk) (mid_succ (f := f) (g := g) (n := n) k))
        have HE' := Lib.hid (And.intro E1 (And.intro E2 (And.intro E3 (And.intro E4 E5))))
        clear hcell hfk hgk hE E1 E2 E3 E4 E5
        go_upto_region 13 with fail
        have hbd : Below wr.heap.size wr wr.drew := (Below.refl _ _).drew
        have hzz : ∀ x : Beh LeW wr.drew, Below wr.heap.size wr x.w := fun x => below_trans' hbd hbd.size x.h
        obtain ⟨sT, AT1, nT1, cT1, AT2, nT2, cT2, GT, FT⟩ := hI.at NT (tQ f g n) (by simp)
        have zT0 := fun x : Beh LeW wr.drew => (cells3 (blk_below (hzz x) GT)).1
        have zT1 := fun x : Beh LeW wr.drew => (cells3 (blk_below (hzz x) GT)).2.1
        have zT2 := fun x : Beh LeW wr.drew => (cells3 (blk_below (hzz x) GT)).2.2
        have ze := fun x : Beh LeW wr.drew => (HCell.out x.w (below_trans' hI.below hI.below.size (hzz x))).1
        have zf := fun x : Beh LeW wr.drew => (HCell.out x.w (below_trans' hI.below hI.below.size (hzz x))).2
        refine wp_region_late (R := LeW) 14 148 [(4, [], some (frG (frQ (f k) 1))), (10, [], some (frG (frQ (g k) 1))), (11, [101], some (frG (tQ f g n * frQ (g k) 1))), (12, [95, 102], some (frG (frQ (f k) 1 - tQ f g n * frQ (g k) 1))), (13, [], some (fresh wr.heap.size #[.bool false, .slice none 0 0, .slice none 0 0] 57))] (by kernel_rfl) (by kernel_rfl) (by kernel_rfl) rfl LeW.refl (fun _ _ _ => LeW.trans) ?_
        simp only [Late, List.take_succ_cons, List.drop_succ_cons, List.take_zero, List.drop_zero, Nat.reduceSub, Nat.reduceAdd, Nat.sub_zero]
        repeat (go_big_quiet_step (fail))
        refine wpQuiet_nil ?_
        refine late_fr Tryz.func30 (by kernel_rfl) (by kernel_rfl) (fun x => num30 (f k) x.w (by have := HK.out.1.1; omega) (by have := HK.out.1.1; omega)) rfl (by simp only [Act.put, List.setIfInBounds_toArray, List.set_cons_succ, List.set_cons_zero]; rfl) ?_
        simp only [List.nil_append, Option.getD_some]
        repeat (go_big_quiet_step (fail))
        refine wpQuiet_nil ?_
        refine late_fr Tryz.func30 (by kernel_rfl) (by kernel_rfl) (fun x => num30 (g k) x.w (by have := HK.out.1.2; omega) (by have := HK.out.1.2; omega)) rfl (by simp only [Act.put, List.setIfInBounds_toArray, List.set_cons_succ, List.set_cons_zero]; rfl) ?_
        simp only [List.nil_append, List.cons_append, Option.getD_some]
        refine wpQuiet_nil ?_
        refine late_fr1 [(95, frG (frQ (f k) 1))] (fun v => #[.agg #[.bool sT, .slice AT1 nT1 cT1, .slice AT2 nT2 cT2], v]) Tryz.func52 (by kernel_rfl) (by kernel_rfl) (by rfl) (fun x v hv => times68 400 (.agg #[.bool sT, .slice AT1 nT1 cT1, .slice AT2 nT2 cT2]) v (tQ f g n) (frQ (g k) 1) x.w (by omega) HE.out.2.1 HE'.out.2.1 (FT.below (hzz x)) hv) (fun v => by simp only [Act.put, List.setIfInBounds_toArray, List.set_cons_succ, List.set_cons_zero]; rfl) (by simp only [Act.put, List.setIfInBounds_toArray, List.set_cons_succ, List.set_cons_zero]; rfl) ?_
        simp only [List.nil_append, List.cons_append, Option.getD_some]
        refine wpQuiet_nil ?_
        refine late_fr2 [(101, frG (frQ (g k) 1))] (fun v u => #[v, u]) Tryz.func64 (by kernel_rfl) (by kernel_rfl) (by rfl) (fun x v u hv hu => minus81 400 v u (frQ (f k) 1) (tQ f g n * frQ (g k) 1) x.w (by omega) HE'.out.1 HE'.out.2.2.1 hv hu) (fun v u => by simp only [Act.put, List.setIfInBounds_toArray, List.set_cons_succ, List.set_cons_zero]; rfl) (by simp only [Act.put, List.setIfInBounds_toArray, List.set_cons_succ, List.set_cons_zero]; rfl) ?_
        simp only [List.nil_append, List.cons_append, Option.getD_some]
        refine wpQuiet_nil ?_
        refine late_alloc (fun _ _ => by kernel_rfl) (fun x => Nat.le_trans hbd.size x.h.size) (by simp only [Act.put, List.setIfInBounds_toArray, List.set_cons_succ, List.set_cons_zero]; rfl) ?_
        refine wpQuiet_nil ?_
        intro x
        simp only [List.nil_append, List.cons_append, allGens, Option.getD_some]
        rintro r0 hr0 r1 hr1 r2 hr2 r3 hr3 vp ⟨bD, rfl, hdbD, gdbD⟩
        simp only [Act.put, List.setIfInBounds_toArray, List.set_cons_succ, List.set_cons_zero]
        obtain ⟨sR, AR1, nR1, cR1, AR2, nR2, cR2, rfl, FR⟩ := FrR.sh hr3
        have hJ := (hI.fresh (hzz x) hdbD gdbD).fill FR
        have y1 := cells3 gdbD
        have y2 := free_of_block gdbD
        have y3 := y1.1
        clear hI FR hr0 hr1 hr2 hr3 zT0 zT1 zT2 ze zf GT FT hzz gdbD hdbD
        generalize x.w = wy at *
        clear y3
        go_upto_region 14 with fail
        generalize ((wy.setCell ⟨bD, 0, none⟩ (.bool sR)).setCell ⟨bD, 1, none⟩ (.slice AR1 nR1 cR1)).setCell ⟨bD, 2, none⟩ (.slice AR2 nR2 cR2) = w12 at *
        clear y1 y2
        obtain ⟨sD, AD1, nD1, cD1, AD2, nD2, cD2, GD, FD⟩ := hJ.at bD (frQ (f k) 1 - tQ f g n * frQ (g k) 1) (by simp)
        have y0 := cells3 GD
        obtain ⟨v', w13, hrun, hK⟩ := hJ.append (sD, (AD1, nD1, cD1), (AD2, nD2, cD2)) (by rw [HXS.out]; exact FD) (by rw [HXS.out]; omega)
        have hrun' : (Builtin.append_ #[83, 83] 83 #[u13, .slice (some ⟨w12.heap.size, 0, none⟩) 1 1]).run Tryz.prog (w12.alloc (.cells #[.bool sD, .slice AD1 nD1 cD1, .slice AD2 nD2 cD2] 57)) = .ok v' w13 := hrun
        obtain ⟨sX, AX1, nX1, cX1, AX2, nX2, cX2, GX, FX⟩ := hK.at NX (midQ f g n k) (by simp)
        obtain ⟨sE, AE1, nE1, cE1, AE2, nE2, cE2, GE, FE⟩ := hK.at bD (frQ (f k) 1 - tQ f g n * frQ (g k) 1) (by simp)
        have y1 := cells3 GX
        have y2 := cells3 GE
        clear hJ hrun GD FD
        go_wp2_with (at_builtin; refine wpList_append_ok (by rfl) (.tmp 104) (.tmp 106) 83 (by rfl) (by rfl) (by rfl) hrun' ?_)
        refine (plus78 400 _ _ (midQ f g n k) (frQ (f k) 1 - tQ f g n * frQ (g k) 1) w13 (by omega) HE'.out.2.2.2.2 HE'.out.2.2.2.1 FX FE).mono ?_
        rintro e w14 ⟨v14, rfl, h14, b14⟩
        obtain ⟨sR, AR1, nR1, cR1, AR2, nR2, cR2, rfl, FR'⟩ := FrR.sh h14
        have hM := (hK.go b14).set (L1 := [(NC, cen), (NT, tQ f g n), (NV, covQ g g n), (bM, adjM f g n cen)]) (L2 := [(NS, frQ 0 1), (bD, frQ (f k) 1 - tQ f g n * frQ (g k) 1)]) FR'
        have y3 := cells3 (blk_below b14 GX)
        have y4 := free_of_block (blk_below b14 GX)
        clear y0 y1 y2 hrun' hK GX GE FX FE FR' h14 b14
        go_wp2_with fail
        have hM' := FR.front (L1 := [(NC, cen), (NT, tQ f g n), (NV, covQ g g n), (bM, adjM f g n cen)] ++ [(NX, midQ f g n k + restQ f g n k), (NS, frQ 0 1)]) (L2 := [(bD, frQ (f k) 1 - tQ f g n * frQ (g k) 1)]) hM
        rw [← HK.out.2] at hM'
        go_roundg (n - (k + 1))
        case measure => have := HR.out; omega
        case rel => exact ⟨k + 1, _, by omega, rfl, by go_num, by simp [HXS.out], hM'⟩
      · have hkn' : n = k := by omega
        subst hkn'
        have hmid := middle_E2 HF.out HG.out h2
        have E1 := rs_of (mid_E2 HF.out HG.out h2 (Nat.le_refl n)) (by omega) (by omega)
        have E2 := rs_of (n_E2 hn5) (by omega) (by omega)
        have E3 := rs_of hmid (by omega) (by omega)
        have HK := Lib.hid (And.intro E1 (And.intro E2 (And.intro E3 (fr_ne (a := (n : Int)) (b := 1) (by omega) (by decide)))))
        clear E1 E2 E3 hmid
        go_upto_region 16 with fail
        have hbd : Below wr.heap.size wr wr.drew := (Below.refl _ _).drew
        have hzz : ∀ x : Beh LeW wr.drew, Below wr.heap.size wr x.w := fun x => below_trans' hbd hbd.size x.h
        obtain ⟨sX, AX1, nX1, cX1, AX2, nX2, cX2, GX, FX⟩ := hI.at NX (midQ f g n n) (by simp)
        have zX0 := fun x : Beh LeW wr.drew => (cells3 (blk_below (hzz x) GX)).1
        have zX1 := fun x : Beh LeW wr.drew => (cells3 (blk_below (hzz x) GX)).2.1
        have zX2 := fun x : Beh LeW wr.drew => (cells3 (blk_below (hzz x) GX)).2.2
        refine wp_region_late (R := LeW) 5 148 [(3, [], some (frG (frQ (n : Int) 1))), (4, [114], some (frG (midQ f g n n / frQ (n : Int) 1)))] (by kernel_rfl) (by kernel_rfl) (by kernel_rfl) rfl LeW.refl (fun _ _ _ => LeW.trans) ?_
        simp only [Late, List.take_succ_cons, List.drop_succ_cons, List.take_zero, List.drop_zero, Nat.reduceSub, Nat.reduceAdd, Nat.sub_zero]
        repeat (go_big_quiet_step (fail))
        refine wpQuiet_nil ?_
        refine late_fr Tryz.func30 (by kernel_rfl) (by kernel_rfl) (fun x => num30 (n : Int) x.w (by omega) (by omega)) rfl (by simp only [Act.put, List.setIfInBounds_toArray, List.set_cons_succ, List.set_cons_zero]; rfl) ?_
        simp only [List.nil_append, Option.getD_some]
        refine wpQuiet_nil ?_
        refine late_fr1 [] (fun v => #[.agg #[.bool sX, .slice AX1 nX1 cX1, .slice AX2 nX2 cX2], v]) Tryz.func28 (by kernel_rfl) (by kernel_rfl) (by rfl) (fun x v hv => over83 400 (.agg #[.bool sX, .slice AX1 nX1 cX1, .slice AX2 nX2 cX2]) v (midQ f g n n) (frQ (n : Int) 1) x.w (by omega) HK.out.2.2.2 HK.out.1 HK.out.2.1 (FX.below (hzz x)) hv) (fun v => by simp only [Act.put, List.setIfInBounds_toArray, List.set_cons_succ, List.set_cons_zero]; rfl) (by simp only [Act.put, List.setIfInBounds_toArray, List.set_cons_succ, List.set_cons_zero]; rfl) ?_
        simp only [List.nil_append, List.cons_append, Option.getD_some]
        refine wpQuiet_nil ?_
        intro x
        simp only [allGens]
        rintro r0 hr0 r1 hr1
        simp only [Act.put, List.setIfInBounds_toArray, List.set_cons_succ, List.set_cons_zero]
        obtain ⟨sR, AR1, nR1, cR1, AR2, nR2, cR2, rfl, FR⟩ := FrR.sh hr1
        have hJ := (hI.go (hzz x)).set (L1 := [(NC, cen), (NT, tQ f g n), (NV, covQ g g n), (bM, adjM f g n cen)]) (L2 := [(NS, frQ 0 1)]) FR
        have y1 := cells3 (blk_below (hzz x) GX)
        have y2 := free_of_block (blk_below (hzz x) GX)
        have y3 := y1.1
        clear hI FR hr0 hr1 zX0 zX1 zX2 GX FX hzz 
        generalize x.w = wy at *
        clear y3
        go_wp2_with fail
        generalize ((wy.setCell ⟨NX, 0, none⟩ (.bool sR)).setCell ⟨NX, 1, none⟩ (.slice AR1 nR1 cR1)).setCell ⟨NX, 2, none⟩ (.slice AR2 nR2 cR2) = w15 at *
        clear y1 y2
        obtain ⟨AR, cR, rfl, hcR⟩ := Own.shape hJ.own
        rw [HXS.out] at hJ hcR ⊢
        have hJ0 : FR w w15 [(NC, cen), (NT, tQ f g n), (NV, covQ g g n), (bM, adjM f g n cen), (NX, midQ f g n n / frQ (n : Int) 1), (NS, sq2Q f g n 0)] [(w.heap.size + 1, .cells #[.int .i64 0, .string ⟨#[]⟩, .string ⟨#[]⟩, .string ⟨#[]⟩, .string ⟨#[]⟩] 28 (0, 0)), (w.heap.size, .cells #[.string C1, .string C2] 26 (0, 0))] (.slice AR n cR) xs (restQ f g n) := by rw [sq2_zero]; exact hJ
        clear hJ
        go_loopg [18, 19] n (fun r i _ wr => ∃ k : Nat, k ≤ n ∧ r = n - k ∧ i = .int .i64 k ∧ FR w wr [(NC, cen), (NT, tQ f g n), (NV, covQ g g n), (bM, adjM f g n cen), (NX, midQ f g n n / frQ (n : Int) 1), (NS, sq2Q f g n k)] [(w.heap.size + 1, .cells #[.int .i64 0, .string ⟨#[]⟩, .string ⟨#[]⟩, .string ⟨#[]⟩, .string ⟨#[]⟩] 28 (0, 0)), (w.heap.size, .cells #[.string C1, .string C2] 26 (0, 0))] (.slice AR n cR) xs (restQ f g n))
        case atStart => exact ⟨0, by omega, rfl, rfl, hJ0⟩
        case round =>
          obtain ⟨k, hk, hr', rfl, hI⟩ := hrel
          have HR2 := Lib.hid hr'
          clear hr' hJ0
          by_cases hkn : k < n
          · have hkI : (k : Int) < n := by omega
            have hE := d_E2 HF.out HG.out h2 hkn
            have E1 := rs_of (rest_E2 HF.out HG.out h2 hkn).2.2 (by omega) (by omega)
            have E2 := rs_of hE.1 (by omega) (by omega)
            have E3 := rs_of hE.2 (by omega) (by omega)
            have E4 := rs_of (sq2_E2 HF.out HG.out h2 hk) (by omega) (by omega)
            have HE' := Lib.hid (And.intro E1 (And.intro E2 (And.intro E3 E4)))
            have HS := Lib.hid (sq2_succ (f := f) (g := g) (n := n) (by omega) k)
            have hrow := Own.rows frC_len (default : FV) hI.own
            rw [HXS.out] at hrow
            obtain ⟨bR, qR, rfl, hbR, hcR'⟩ := hrow (by omega)
            obtain ⟨X, hX⟩ : ∃ X, xs[k]? = some X := ⟨_, List.getElem?_eq_getElem (by rw [HXS.out]; exact hkn)⟩
            have hXd : xs.getD k default = X := by rw [List.getD_eq_getElem?_getD, hX]; rfl
            have hnum := hI.num k X hX
            have hcX := hcR' k hkn
            simp only [hXd] at hcX
            obtain ⟨sX, ⟨AX1, nX1, cX1⟩, ⟨AX2, nX2, cX2⟩⟩ := X
            have x0 := hcX 0 _ rfl
            have x1 := hcX 1 _ rfl
            have x2 := hcX 2 _ rfl
            have hxk : wr.cell? ⟨bR, qR + k * 3, none⟩ = some (.bool sX) ∧ wr.cell? ⟨bR, qR + k * 3 + 1, none⟩ = some (.slice AX1 nX1 cX1) ∧ wr.cell? ⟨bR, qR + k * 3 + 2, none⟩ = some (.slice AX2 nX2 cX2) := ⟨x0, x1, x2⟩
            clear hE E1 E2 E3 E4 x0 x1 x2 hcX hX hXd hcR' hrow
            go_upto_region 20 with fail
            have hbd : Below wr.heap.size wr wr.drew := (Below.refl _ _).drew
            have hzz : ∀ x : Beh LeW wr.drew, Below wr.heap.size wr x.w := fun x => below_trans' hbd hbd.size x.h
            obtain ⟨sZ, AZ1, nZ1, cZ1, AZ2, nZ2, cZ2, GZ, FZ⟩ := hI.at NX (midQ f g n n / frQ (n : Int) 1) (by simp)
            have zZ0 := fun x : Beh LeW wr.drew => (cells3 (blk_below (hzz x) GZ)).1
            have zZ1 := fun x : Beh LeW wr.drew => (cells3 (blk_below (hzz x) GZ)).2.1
            have zZ2 := fun x : Beh LeW wr.drew => (cells3 (blk_below (hzz x) GZ)).2.2
            have ze := fun x : Beh LeW wr.drew => ((hzz x).cell (p := ⟨bR, qR + k * 3, none⟩) hbR).trans hxk.1
            have zf := fun x : Beh LeW wr.drew => ((hzz x).cell (p := ⟨bR, qR + k * 3 + 1, none⟩) hbR).trans hxk.2.1
            have zg := fun x : Beh LeW wr.drew => ((hzz x).cell (p := ⟨bR, qR + k * 3 + 2, none⟩) hbR).trans hxk.2.2
            refine wp_region_late (R := LeW) 7 148 [(5, [], some (frG (restQ f g n k - midQ f g n n / frQ (n : Int) 1))), (6, [], some (fresh wr.heap.size #[.bool false, .slice none 0 0, .slice none 0 0] 57))] (by kernel_rfl) (by kernel_rfl) (by kernel_rfl) rfl LeW.refl (fun _ _ _ => LeW.trans) ?_
            simp only [Late, List.take_succ_cons, List.drop_succ_cons, List.take_zero, List.drop_zero, Nat.reduceSub, Nat.reduceAdd, Nat.sub_zero]
            repeat (go_big_quiet_step (fail))
            refine wpQuiet_nil ?_
            refine late_fr Tryz.func64 (by kernel_rfl) (by kernel_rfl) (fun x => minus81 400 (.agg #[.bool sX, .slice AX1 nX1 cX1, .slice AX2 nX2 cX2]) (.agg #[.bool sZ, .slice AZ1 nZ1 cZ1, .slice AZ2 nZ2 cZ2]) (restQ f g n k) (midQ f g n n / frQ (n : Int) 1) x.w (by omega) HE'.out.1 HK.out.2.2.1 (hnum.below (hzz x)) (FZ.below (hzz x))) rfl (by simp only [Act.put, List.setIfInBounds_toArray, List.set_cons_succ, List.set_cons_zero]; rfl) ?_
            simp only [List.nil_append, Option.getD_some]
            refine wpQuiet_nil ?_
            refine late_alloc (fun _ _ => by kernel_rfl) (fun x => Nat.le_trans hbd.size x.h.size) (by simp only [Act.put, List.setIfInBounds_toArray, List.set_cons_succ, List.set_cons_zero]; rfl) ?_
            refine wpQuiet_nil ?_
            intro x
            simp only [List.nil_append, List.cons_append, allGens, Option.getD_some]
            rintro r0 hr0 vp ⟨bD, rfl, hdbD, gdbD⟩
            simp only [Act.put, List.setIfInBounds_toArray, List.set_cons_succ, List.set_cons_zero]
            obtain ⟨sR, AR1, nR1, cR1, AR2, nR2, cR2, rfl, FR⟩ := FrR.sh hr0
            have hJ := (hI.fresh (hzz x) hdbD gdbD).fill FR
            have y1 := cells3 gdbD
            have y2 := free_of_block gdbD
            have y3 := y1.1
            clear hI FR hr0 zZ0 zZ1 zZ2 ze zf zg GZ FZ hzz gdbD hdbD
            generalize x.w = wy at *
            clear y3
            go_upto_region 21 with fail
            generalize ((wy.setCell ⟨bD, 0, none⟩ (.bool sR)).setCell ⟨bD, 1, none⟩ (.slice AR1 nR1 cR1)).setCell ⟨bD, 2, none⟩ (.slice AR2 nR2 cR2) = w16 at *
            clear y1 y2
            have hbd : Below w16.heap.size w16 w16.drew := (Below.refl _ _).drew
            have hzz : ∀ x : Beh LeW w16.drew, Below w16.heap.size w16 x.w := fun x => below_trans' hbd hbd.size x.h
            obtain ⟨sS, AS1, nS1, cS1, AS2, nS2, cS2, GS, FS⟩ := hJ.at NS (sq2Q f g n k) (by simp)
            have zS0 := fun x : Beh LeW w16.drew => (cells3 (blk_below (hzz x) GS)).1
            have zS1 := fun x : Beh LeW w16.drew => (cells3 (blk_below (hzz x) GS)).2.1
            have zS2 := fun x : Beh LeW w16.drew => (cells3 (blk_below (hzz x) GS)).2.2
            obtain ⟨sD, AD1, nD1, cD1, AD2, nD2, cD2, GD, FD⟩ := hJ.at bD (restQ f g n k - midQ f g n n / frQ (n : Int) 1) (by simp)
            have zD0 := fun x : Beh LeW w16.drew => (cells3 (blk_below (hzz x) GD)).1
            have zD1 := fun x : Beh LeW w16.drew => (cells3 (blk_below (hzz x) GD)).2.1
            have zD2 := fun x : Beh LeW w16.drew => (cells3 (blk_below (hzz x) GD)).2.2
            refine wp_region_late (R := LeW) 5 148 [(3, [], some (frG ((restQ f g n k - midQ f g n n / frQ (n : Int) 1) * (restQ f g n k - midQ f g n n / frQ (n : Int) 1)))), (4, [131], some (frG (sq2Q f g n k + (restQ f g n k - midQ f g n n / frQ (n : Int) 1) * (restQ f g n k - midQ f g n n / frQ (n : Int) 1))))] (by kernel_rfl) (by kernel_rfl) (by kernel_rfl) rfl LeW.refl (fun _ _ _ => LeW.trans) ?_
            simp only [Late, List.take_succ_cons, List.drop_succ_cons, List.take_zero, List.drop_zero, Nat.reduceSub, Nat.reduceAdd, Nat.sub_zero]
            repeat (go_big_quiet_step (fail))
            refine wpQuiet_nil ?_
            refine late_fr Tryz.func52 (by kernel_rfl) (by kernel_rfl) (fun x => times68 400 (.agg #[.bool sD, .slice AD1 nD1 cD1, .slice AD2 nD2 cD2]) (.agg #[.bool sD, .slice AD1 nD1 cD1, .slice AD2 nD2 cD2]) _ _ x.w (by omega) HE'.out.2.1 HE'.out.2.1 (FD.below (hzz x)) (FD.below (hzz x))) rfl (by simp only [Act.put, List.setIfInBounds_toArray, List.set_cons_succ, List.set_cons_zero]; rfl) ?_
            simp only [List.nil_append, Option.getD_some]
            refine wpQuiet_nil ?_
            refine late_fr1 [] (fun v => #[.agg #[.bool sS, .slice AS1 nS1 cS1, .slice AS2 nS2 cS2], v]) Tryz.func65 (by kernel_rfl) (by kernel_rfl) (by rfl) (fun x v hv => plus78 400 (.agg #[.bool sS, .slice AS1 nS1 cS1, .slice AS2 nS2 cS2]) v _ _ x.w (by omega) HE'.out.2.2.2 HE'.out.2.2.1 (FS.below (hzz x)) hv) (fun v => by simp only [Act.put, List.setIfInBounds_toArray, List.set_cons_succ, List.set_cons_zero]; rfl) (by simp only [Act.put, List.setIfInBounds_toArray, List.set_cons_succ, List.set_cons_zero]; rfl) ?_
            simp only [List.nil_append, List.cons_append, Option.getD_some]
            refine wpQuiet_nil ?_
            intro x
            simp only [allGens]
            rintro r0 hr0 r1 hr1
            simp only [Act.put, List.setIfInBounds_toArray, List.set_cons_succ, List.set_cons_zero]
            obtain ⟨sR, AR1, nR1, cR1, AR2, nR2, cR2, rfl, FR⟩ := FrR.sh hr1
            have hM := (hJ.go (hzz x)).set (L1 := [(NC, cen), (NT, tQ f g n), (NV, covQ g g n), (bM, adjM f g n cen)] ++ [(NX, midQ f g n n / frQ (n : Int) 1)]) (L2 := [(bD, restQ f g n k - midQ f g n n / frQ (n : Int) 1)]) FR
            have y1 := cells3 (blk_below (hzz x) GS)
            have y2 := free_of_block (blk_below (hzz x) GS)
            have y3 := y1.1
            clear hJ FR hr0 hr1 zS0 zS1 zS2 zD0 zD1 zD2 GS FS GD FD hzz 
            generalize x.w = wy at *
            clear y3
            go_wp2_with fail
            generalize ((wy.setCell ⟨NS, 0, none⟩ (.bool sR)).setCell ⟨NS, 1, none⟩ (.slice AR1 nR1 cR1)).setCell ⟨NS, 2, none⟩ (.slice AR2 nR2 cR2) = w17 at *
            clear y1 y2
            have hM' : FR w w17 [(NC, cen), (NT, tQ f g n), (NV, covQ g g n), (bM, adjM f g n cen), (NX, midQ f g n n / frQ (n : Int) 1), (NS, sq2Q f g n (k + 1))] [(w.heap.size + 1, .cells #[.int .i64 0, .string ⟨#[]⟩, .string ⟨#[]⟩, .string ⟨#[]⟩, .string ⟨#[]⟩] 28 (0, 0)), (w.heap.size, .cells #[.string C1, .string C2] 26 (0, 0))] (.slice (some ⟨bR, qR, none⟩) n cR) xs (restQ f g n) := by
              rw [HS.out]
              exact FR.front (L1 := [(NC, cen), (NT, tQ f g n), (NV, covQ g g n), (bM, adjM f g n cen)] ++ [(NX, midQ f g n n / frQ (n : Int) 1), (NS, sq2Q f g n k + dQ f g n k * dQ f g n k)]) (L2 := [(bD, restQ f g n k - midQ f g n n / frQ (n : Int) 1)]) hM
            go_roundg (n - (k + 1))
            case measure => have := HR2.out; omega
            case rel => exact ⟨k + 1, by omega, rfl, by go_num, hM'⟩
          · have hkn' : k = n := by omega
            subst hkn'
            have hnn := nn_fit hn5 h2
            have x1 : IntKind.i64.wrap ((k : Int) - 1) = (k : Int) - 1 := IntWalk.i64_in _ (by omega)
            have x2 : IntKind.i64.wrap ((k : Int) * ((k : Int) - 1)) = (k : Int) * ((k : Int) - 1) := IntWalk.i64_in _ (by omega)
            have E1 := rs_of (sq2_E2 HF.out HG.out h2 (Nat.le_refl k)) (by omega) (by omega)
            have E2 := rs_of (nn_E2 hn5 h2) (by omega) (by omega)
            have hV := (adjV_E2 HF.out HG.out h2).2.2.2.2.2.2
            have E3 := rs_of hV (by omega) (by omega)
            have HE' := Lib.hid (And.intro E1 (And.intro E2 (And.intro E3 (And.intro (fr_ne (a := (k : Int) * ((k : Int) - 1)) (b := 1) (nn_ne h2) (by decide)) (adj_ref (f := f) (g := g) h2)))))
            have HNN := Lib.hid hnn
            clear E1 E2 E3 hV hnn
            go_upto_region 22 with fail
            have hbd : Below wr.heap.size wr wr.drew := (Below.refl _ _).drew
            have hzz : ∀ x : Beh LeW wr.drew, Below wr.heap.size wr x.w := fun x => below_trans' hbd hbd.size x.h
            obtain ⟨sM, AM1, nM1, cM1, AM2, nM2, cM2, GM, FM⟩ := hI.at bM (adjM f g k cen) (by simp)
            have zM0 := fun x : Beh LeW wr.drew => (cells3 (blk_below (hzz x) GM)).1
            have zM1 := fun x : Beh LeW wr.drew => (cells3 (blk_below (hzz x) GM)).2.1
            have zM2 := fun x : Beh LeW wr.drew => (cells3 (blk_below (hzz x) GM)).2.2
            obtain ⟨sS, AS1, nS1, cS1, AS2, nS2, cS2, GS, FS⟩ := hI.at NS (sq2Q f g k k) (by simp)
            have zS0 := fun x : Beh LeW wr.drew => (cells3 (blk_below (hzz x) GS)).1
            have zS1 := fun x : Beh LeW wr.drew => (cells3 (blk_below (hzz x) GS)).2.1
            have zS2 := fun x : Beh LeW wr.drew => (cells3 (blk_below (hzz x) GS)).2.2
            refine wp_region_late (R := LeW) 15 148 [(10, [], some (frG (frQ ((k : Int) * ((k : Int) - 1)) 1))), (11, [143], some (frG (sq2Q f g k k / frQ ((k : Int) * ((k : Int) - 1)) 1))), (12, [144], none)] (by kernel_rfl) (by kernel_rfl) (by kernel_rfl) rfl LeW.refl (fun _ _ _ => LeW.trans) ?_
            simp only [Late, List.take_succ_cons, List.drop_succ_cons, List.take_zero, List.drop_zero, Nat.reduceSub, Nat.reduceAdd, Nat.sub_zero]
            repeat (go_big_quiet_step (fail))
            refine wpQuiet_nil ?_
            refine late_fr Tryz.func30 (by kernel_rfl) (by kernel_rfl) (fun x => num30 ((k : Int) * ((k : Int) - 1)) x.w (by have := HNN.out; omega) (by have := HNN.out; omega)) rfl (by simp only [Act.put, List.setIfInBounds_toArray, List.set_cons_succ, List.set_cons_zero]; rfl) ?_
            simp only [List.nil_append, Option.getD_some]
            refine wpQuiet_nil ?_
            refine late_fr1 [] (fun v => #[.agg #[.bool sS, .slice AS1 nS1 cS1, .slice AS2 nS2 cS2], v]) Tryz.func28 (by kernel_rfl) (by kernel_rfl) (by rfl) (fun x v hv => over83 400 (.agg #[.bool sS, .slice AS1 nS1 cS1, .slice AS2 nS2 cS2]) v (sq2Q f g k k) (frQ ((k : Int) * ((k : Int) - 1)) 1) x.w (by omega) HE'.out.2.2.2.1 HE'.out.1 HE'.out.2.1 (FS.below (hzz x)) hv) (fun v => by simp only [Act.put, List.setIfInBounds_toArray, List.set_cons_succ, List.set_cons_zero]; rfl) (by simp only [Act.put, List.setIfInBounds_toArray, List.set_cons_succ, List.set_cons_zero]; rfl) ?_
            simp only [List.nil_append, List.cons_append, Option.getD_some]
            refine wpQuiet_nil ?_
            refine late_val1 [(143, frG (frQ ((k : Int) * ((k : Int) - 1)) 1))] (fun v => #[.int .i64 k, .agg #[.bool sM, .slice AM1 nM1 cM1, .slice AM2 nM2 cM2], v]) Tryz.func26 (by kernel_rfl) (by kernel_rfl) (by rfl) (fun x v hv => est26 k (.agg #[.bool sM, .slice AM1 nM1 cM1, .slice AM2 nM2 cM2]) v _ _ M1 M2 V1 V2 x.w HE.out.2.2.2.2.2.2.2.2 (by rw [HE'.out.2.2.2.2]; exact HE'.out.2.2.1) (FM.below (hzz x)) hv HT.out.2.1 (by rw [HE'.out.2.2.2.2]; exact HT.out.2.2)) (fun v => by simp only [Act.put, List.setIfInBounds_toArray, List.set_cons_succ, List.set_cons_zero]; rfl) (by simp only [Act.put, List.setIfInBounds_toArray, List.set_cons_succ, List.set_cons_zero]; rfl) ?_
            simp only [List.nil_append, List.cons_append]
            repeat (go_big_quiet_step (fail))
            refine wpQuiet_nil ?_
            intro x
            simp only [allGens]
            rintro r0 hr0 r1 hr1
            simp only [Act.put, List.setIfInBounds_toArray, List.set_cons_succ, List.set_cons_zero]
            have hT := ((hI.go (hzz x)).ob _ (List.mem_cons_self ..))
            have hbe := below_sets5 (hI.go (hzz x)).below hT.1 (.int .i64 k) (.string M1) (.string M2) (.string V1) (.string V2)
            obtain ⟨u0, u1, u2, u3, u4⟩ := cells5 (set5 hT.2 (.int .i64 k) (.string M1) (.string M2) (.string V1) (.string V2))
            have y1 := cells5 hT.2
            have y2 := free_of_block hT.2
            clear hI hr0 hr1 hzz GM FM GS FS zM0 zM1 zM2 zS0 zS1 zS2 hT hbd x1 x2
            generalize x.w = wy at *
            go_wp2_with fail
            exact bodyPost_ret (v := .tuple #[estV k M1 M2 V1 V2, .bool true]) (by simp [results, Tryz.results22, go_sem, u0, u1, u2, u3, u4]) rfl ⟨rfl, hbe⟩
end Go.Proofs.YtpligjkbnlfhgaaGreatDoor
