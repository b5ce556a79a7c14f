/- The reference of chapter 38: covariance. No statement is proved here. -/
import Derived.Test.YtpligjkbnlfhgaaGreatDoorEr1
namespace Go.Proofs.YtpligjkbnlfhgaaGreatDoor
open Go.RowKit

theorem FI.newF {w wr : World} {L : List (Nat × Rat)} {O : List (Nat × Obj)} {s : Bool} {A1 A2 : Option Addr} {n1 c1 n2 c2 : Nat} {x : Rat} (h : FI w wr L O) (N : Nat) (hN : wr.heap.size = N) (hf : FrR wr (.agg #[.bool s, .slice A1 n1 c1, .slice A2 n2 c2]) x) :
    FI w (wr.alloc (.cells #[.bool s, .slice A1 n1 c1, .slice A2 n2 c2] 57)) (L ++ [(N, x)]) O := by
  subst hN
  exact h.alloc.take (hf.below ((Below.refl _ _).alloc (Nat.le_refl _) _))
theorem FI.front {w wr : World} {L1 L2 : List (Nat × Rat)} {O : List (Nat × Obj)} (h : FI w wr (L1 ++ L2) O) : FI w wr L1 O := h.drop (List.sublist_append_left _ _) (List.Sublist.refl _)
theorem below_alloc (w : World) (cs : Array Value) (t : TypeId) : Below w.heap.size w (w.alloc (.cells cs t)) := (Below.refl _ _).alloc (Nat.le_refl _) _

set_option maxRecDepth 100000 in
set_option maxHeartbeats 16000000 in
theorem covr29 (A B : Option Addr) (n ca cb : Nat) (f g : Nat → Int) (w : World) (hl : IntsV w A n ca f) (hm : IntsV w B n cb g) (hf : Fit f n) (hg : Fit g n) (h2 : 2 ≤ n) :
    Calls Tryz.prog 29 #[.slice A n ca, .slice B n cb] w fun e w' => ∃ v, e = .returned v ∧ FrR w' v (covQ f g n) ∧ Below w.heap.size w w' := by
  obtain ⟨o1, q1, rfl, hbk1, hcl1⟩ := hl.rd (by omega)
  obtain ⟨o2, q2, rfl, hbk2, hcl2⟩ := hm.rd (by omega)
  have HL1 := Lib.hid hcl1
  have HL2 := Lib.hid hcl2
  have hn5 := hf.1
  have HF := Lib.hid hf
  have HG := Lib.hid hg
  have g0 := heap_alloc_new w (.cells #[.bool false, .slice none 0 0, .slice none 0 0] 57)
  have hbW := below_alloc w #[.bool false, .slice none 0 0, .slice none 0 0] 57
  have hl1 := hl.below hbW
  have hm1 := hm.below hbW
  have hI0 : FI w (w.alloc (.cells #[.bool false, .slice none 0 0, .slice none 0 0] 57)) [] [(w.heap.size, .cells #[.bool false, .slice none 0 0, .slice none 0 0] 57 (0, 0))] :=
    ⟨hbW, fun _ h => by simp at h, fun p h => by obtain rfl := List.mem_singleton.1 h; exact ⟨Nat.le_refl _, g0⟩, by simp⟩
  clear hcl1 hcl2 hf hg hl hm g0
  go_enter Tryz.func29, Tryz.ntmps29
  go_wp2_with fail
  generalize w.alloc (.cells #[.bool false, .slice none 0 0, .slice none 0 0] 57) = W at *
  refine (mean27 _ n ca f W hl1 HF.out (by omega)).mono ?_
  rintro e w1 ⟨v1, rfl, h1, b1⟩
  go_wp2_with fail
  refine (mean27 _ n cb g w1 (hm1.below b1) HG.out (by omega)).mono ?_
  rintro e w2 ⟨v2, rfl, h2', b2⟩
  go_wp2_with fail
  refine (num30 0 w2 (by decide) (by decide)).mono ?_
  rintro e w3 ⟨v3, rfl, h3, b3⟩
  obtain ⟨s1, A11, n11, c11, A12, n12, c12, rfl, F1⟩ := FrR.sh h1
  obtain ⟨s2, A21, n21, c21, A22, n22, c22, rfl, F2⟩ := FrR.sh h2'
  obtain ⟨s3, A31, n31, c31, A32, n32, c32, rfl, F3⟩ := FrR.sh h3
  have F1' := (F1.below b2).below b3
  have F2' := F2.below b3
  have k1 := below_alloc w3 #[.bool s1, .slice A11 n11 c11, .slice A12 n12 c12] 57
  have k2 := below_alloc (w3.alloc (.cells #[.bool s1, .slice A11 n11 c11, .slice A12 n12 c12] 57)) #[.bool s2, .slice A21 n21 c21, .slice A22 n22 c22] 57
  have hI1 : FI w _ [(w3.heap.size, meanQ f n), (w3.heap.size + 1, meanQ g n), (w3.heap.size + 1 + 1, frQ 0 1)] [(w.heap.size, .cells #[.bool false, .slice none 0 0, .slice none 0 0] 57 (0, 0))] :=
    (((((hI0.go b1).go b2).go b3).newF w3.heap.size rfl F1').newF (w3.heap.size + 1) (by simp) (F2'.below k1)).newF (w3.heap.size + 1 + 1) (by simp) ((F3.below k1).below k2)
  clear F1 F2 F3 F1' F2' k1 k2 h1 h2' h3 hI0 b1 b2 b3 hl1 hm1 hbW
  go_wp2_with fail
  generalize ((w3.alloc (.cells #[.bool s1, .slice A11 n11 c11, .slice A12 n12 c12] 57)).alloc (.cells #[.bool s2, .slice A21 n21 c21, .slice A22 n22 c22] 57)).alloc (.cells #[.bool s3, .slice A31 n31 c31, .slice A32 n32 c32] 57) = w4 at *
  generalize w3.heap.size + 1 + 1 = NS at *
  generalize w3.heap.size + 1 = NY at *
  generalize w3.heap.size = NX at *
  rw [← scQ_zero (f := f) (g := g) (n := n)] at hI1
  go_loopg [8, 9, 10] n (fun r i _ _ wr => ∃ k : Nat, k ≤ n ∧ r = n - k ∧ i = .int .i64 k ∧ FI w wr [(NX, meanQ f n), (NY, meanQ g n), (NS, scQ f g n k)] [(w.heap.size, .cells #[.bool false, .slice none 0 0, .slice none 0 0] 57 (0, 0))])
  case atStart => exact ⟨0, by omega, rfl, rfl, hI1⟩
  case round =>
    obtain ⟨k, hk, hr', rfl, hI⟩ := hrel
    have HR := Lib.hid hr'
    clear hr' hI1
    by_cases hkn : k < n
    · have hkI : (k : Int) < n := by omega
      have hfk := HF.out.2 k hkn
      have hgk := HG.out.2 k hkn
      have E1 := rs_of (elt_E2 HF.out hkn) (by omega) (by omega)
      have E2 := rs_of (elt_E2 HG.out hkn) (by omega) (by omega)
      have E3 := rs_of (mean_E2 HF.out (by omega)) (by omega) (by omega)
      have E4 := rs_of (mean_E2 HG.out (by omega)) (by omega) (by omega)
      have E5 := rs_of (ctr_E2 HF.out (by omega) hkn) (by omega) (by omega)
      have E6 := rs_of (ctr_E2 HG.out (by omega) hkn) (by omega) (by omega)
      have E7 := rs_of (prod_E2 HF.out HG.out (by omega) hkn) (by omega) (by omega)
      have E8 := rs_of (scQ_E2 HF.out HG.out (by omega) hk) (by omega) (by omega)
      have hs := scQ_succ (f := f) (g := g) (n := n) (by omega) k
      have hcell : ∀ wx, Below w.heap.size w wx → wx.cell? ⟨o1, q1 + k, none⟩ = some (.int .i64 (f k)) ∧ wx.cell? ⟨o2, q2 + k, none⟩ = some (.int .i64 (g k)) := fun wx h =>
        ⟨(h.cell (p := ⟨o1, q1 + k, none⟩) hbk1).trans (HL1.out k hkn), (h.cell (p := ⟨o2, q2 + k, none⟩) hbk2).trans (HL2.out k hkn)⟩
      have HCell := Lib.hid hcell
      have HE := Lib.hid (And.intro (And.intro hfk hgk) hs)
      have HE' := Lib.hid (And.intro E1 (And.intro E2 (And.intro E3 (And.intro E4 (And.intro E5 (And.intro E6 (And.intro E7 E8)))))))
      clear hcell hfk hgk hs E1 E2 E3 E4 E5 E6 E7 E8
      go_upto_region 5 with fail
      have hbd : Below wr.heap.size wr wr.drew := (Below.refl _ _).drew
      have hzz : ∀ x : Beh LeW wr.drew, Below wr.heap.size wr x.w := fun x => below_trans' hbd hbd.size x.h
      obtain ⟨sX, AX1, nX1, cX1, AX2, nX2, cX2, GX, FX⟩ := hI.at NX (meanQ f n) (by simp)
      have zX0 := fun x : Beh LeW wr.drew => (cells3 (blk_below (hzz x) GX)).1
      have zX1 := fun x : Beh LeW wr.drew => (cells3 (blk_below (hzz x) GX)).2.1
      have zX2 := fun x : Beh LeW wr.drew => (cells3 (blk_below (hzz x) GX)).2.2
      have ze := fun x : Beh LeW wr.drew => (HCell.out x.w (below_trans' hI.below hI.below.size (hzz x))).1
      refine wp_region_late (R := LeW) 8 47 [(4, [], some (frG (frQ (f k) 1))), (6, [26], some (frG (frQ (f k) 1 - meanQ f n))), (7, [], some (fresh wr.heap.size #[.bool false, .slice none 0 0, .slice none 0 0] 57))] (by kernel_rfl) (by kernel_rfl) (by kernel_rfl) rfl LeW.refl (fun _ _ _ => LeW.trans) ?_
      simp only [Late, List.take_succ_cons, List.drop_succ_cons, List.take_zero, List.drop_zero, Nat.reduceSub, Nat.reduceAdd, Nat.sub_zero]
      repeat (go_big_quiet_step (fail))
      refine wpQuiet_nil ?_
      refine late_fr Tryz.func30 (by kernel_rfl) (by kernel_rfl) (fun x => num30 (f k) x.w (by have := HE.out.1.1; omega) (by have := HE.out.1.1; omega)) rfl (by simp only [Act.put, List.setIfInBounds_toArray, List.set_cons_succ, List.set_cons_zero]; rfl) ?_
      simp only [List.nil_append, Option.getD_some]
      repeat (go_big_quiet_step (fail))
      refine wpQuiet_nil ?_
      refine late_fr1 [] (fun v => #[v, .agg #[.bool sX, .slice AX1 nX1 cX1, .slice AX2 nX2 cX2]]) Tryz.func64 (by kernel_rfl) (by kernel_rfl) (by rfl) (fun x v hv => minus81 400 v (.agg #[.bool sX, .slice AX1 nX1 cX1, .slice AX2 nX2 cX2]) (frQ (f k) 1) (meanQ f n) x.w (by omega) HE'.out.1 HE'.out.2.2.1 hv (FX.below (hzz x))) (fun v => by simp only [Act.put, List.setIfInBounds_toArray, List.set_cons_succ, List.set_cons_zero]; rfl) (by simp only [Act.put, List.setIfInBounds_toArray, List.set_cons_succ, List.set_cons_zero]; rfl) ?_
      simp only [List.nil_append, List.cons_append, Option.getD_some]
      refine wpQuiet_nil ?_
      refine late_alloc (fun _ _ => by kernel_rfl) (fun x => Nat.le_trans hbd.size x.h.size) (by simp only [Act.put, List.setIfInBounds_toArray, List.set_cons_succ, List.set_cons_zero]; rfl) ?_
      refine wpQuiet_nil ?_
      intro x
      simp only [List.nil_append, List.cons_append, allGens, Option.getD_some]
      rintro r0 hr0 r1 hr1 vp ⟨bD, rfl, hdbD, gdbD⟩
      simp only [Act.put, List.setIfInBounds_toArray, List.set_cons_succ, List.set_cons_zero]
      obtain ⟨sR, AR1, nR1, cR1, AR2, nR2, cR2, rfl, FR⟩ := FrR.sh hr1
      have hJ := (hI.fresh (hzz x) hdbD gdbD).fill FR
      have y1 := cells3 gdbD
      have y2 := free_of_block gdbD
      have y3 := y1.1
      clear hI FR hr0 hr1 zX0 zX1 zX2 ze GX FX hzz gdbD hdbD
      generalize x.w = wy at *
      clear y3
      go_upto_region 6 with fail
      generalize ((wy.setCell ⟨bD, 0, none⟩ (.bool sR)).setCell ⟨bD, 1, none⟩ (.slice AR1 nR1 cR1)).setCell ⟨bD, 2, none⟩ (.slice AR2 nR2 cR2) = w5 at *
      clear y1 y2
      have hbd : Below w5.heap.size w5 w5.drew := (Below.refl _ _).drew
      have hzz : ∀ x : Beh LeW w5.drew, Below w5.heap.size w5 x.w := fun x => below_trans' hbd hbd.size x.h
      obtain ⟨sY, AY1, nY1, cY1, AY2, nY2, cY2, GY, FY⟩ := hJ.at NY (meanQ g n) (by simp)
      have zY0 := fun x : Beh LeW w5.drew => (cells3 (blk_below (hzz x) GY)).1
      have zY1 := fun x : Beh LeW w5.drew => (cells3 (blk_below (hzz x) GY)).2.1
      have zY2 := fun x : Beh LeW w5.drew => (cells3 (blk_below (hzz x) GY)).2.2
      have ze := fun x : Beh LeW w5.drew => (HCell.out x.w (below_trans' hJ.below hJ.below.size (hzz x))).2
      refine wp_region_late (R := LeW) 8 47 [(4, [], some (frG (frQ (g k) 1))), (6, [33], some (frG (frQ (g k) 1 - meanQ g n))), (7, [], some (fresh w5.heap.size #[.bool false, .slice none 0 0, .slice none 0 0] 57))] (by kernel_rfl) (by kernel_rfl) (by kernel_rfl) rfl LeW.refl (fun _ _ _ => LeW.trans) ?_
      simp only [Late, List.take_succ_cons, List.drop_succ_cons, List.take_zero, List.drop_zero, Nat.reduceSub, Nat.reduceAdd, Nat.sub_zero]
      repeat (go_big_quiet_step (fail))
      refine wpQuiet_nil ?_
      refine late_fr Tryz.func30 (by kernel_rfl) (by kernel_rfl) (fun x => num30 (g k) x.w (by have := HE.out.1.2; omega) (by have := HE.out.1.2; omega)) rfl (by simp only [Act.put, List.setIfInBounds_toArray, List.set_cons_succ, List.set_cons_zero]; rfl) ?_
      simp only [List.nil_append, Option.getD_some]
      repeat (go_big_quiet_step (fail))
      refine wpQuiet_nil ?_
      refine late_fr1 [] (fun v => #[v, .agg #[.bool sY, .slice AY1 nY1 cY1, .slice AY2 nY2 cY2]]) Tryz.func64 (by kernel_rfl) (by kernel_rfl) (by rfl) (fun x v hv => minus81 400 v (.agg #[.bool sY, .slice AY1 nY1 cY1, .slice AY2 nY2 cY2]) (frQ (g k) 1) (meanQ g n) x.w (by omega) HE'.out.2.1 HE'.out.2.2.2.1 hv (FY.below (hzz x))) (fun v => by simp only [Act.put, List.setIfInBounds_toArray, List.set_cons_succ, List.set_cons_zero]; rfl) (by simp only [Act.put, List.setIfInBounds_toArray, List.set_cons_succ, List.set_cons_zero]; rfl) ?_
      simp only [List.nil_append, List.cons_append, Option.getD_some]
      refine wpQuiet_nil ?_
      refine late_alloc (fun _ _ => by kernel_rfl) (fun x => Nat.le_trans hbd.size x.h.size) (by simp only [Act.put, List.setIfInBounds_toArray, List.set_cons_succ, List.set_cons_zero]; rfl) ?_
      refine wpQuiet_nil ?_
      intro x
      simp only [List.nil_append, List.cons_append, allGens, Option.getD_some]
      rintro r0 hr0 r1 hr1 vp ⟨bE, rfl, hdbE, gdbE⟩
      simp only [Act.put, List.setIfInBounds_toArray, List.set_cons_succ, List.set_cons_zero]
      obtain ⟨sR, AR1, nR1, cR1, AR2, nR2, cR2, rfl, FR⟩ := FrR.sh hr1
      have hK := (hJ.fresh (hzz x) hdbE gdbE).fill FR
      have y1 := cells3 gdbE
      have y2 := free_of_block gdbE
      have y3 := y1.1
      clear hJ FR hr0 hr1 zY0 zY1 zY2 ze GY FY hzz gdbE hdbE
      generalize x.w = wy at *
      clear y3
      go_upto_region 7 with fail
      generalize ((wy.setCell ⟨bE, 0, none⟩ (.bool sR)).setCell ⟨bE, 1, none⟩ (.slice AR1 nR1 cR1)).setCell ⟨bE, 2, none⟩ (.slice AR2 nR2 cR2) = w6 at *
      clear y1 y2
      have hbd : Below w6.heap.size w6 w6.drew := (Below.refl _ _).drew
      have hzz : ∀ x : Beh LeW w6.drew, Below w6.heap.size w6 x.w := fun x => below_trans' hbd hbd.size x.h
      obtain ⟨sS, AS1, nS1, cS1, AS2, nS2, cS2, GS, FS⟩ := hK.at NS (scQ f g n k) (by simp)
      have zS0 := fun x : Beh LeW w6.drew => (cells3 (blk_below (hzz x) GS)).1
      have zS1 := fun x : Beh LeW w6.drew => (cells3 (blk_below (hzz x) GS)).2.1
      have zS2 := fun x : Beh LeW w6.drew => (cells3 (blk_below (hzz x) GS)).2.2
      obtain ⟨sD, AD1, nD1, cD1, AD2, nD2, cD2, GD, FD⟩ := hK.at bD (frQ (f k) 1 - meanQ f n) (by simp)
      have zD0 := fun x : Beh LeW w6.drew => (cells3 (blk_below (hzz x) GD)).1
      have zD1 := fun x : Beh LeW w6.drew => (cells3 (blk_below (hzz x) GD)).2.1
      have zD2 := fun x : Beh LeW w6.drew => (cells3 (blk_below (hzz x) GD)).2.2
      obtain ⟨sE, AE1, nE1, cE1, AE2, nE2, cE2, GE, FE⟩ := hK.at bE (frQ (g k) 1 - meanQ g n) (by simp)
      have zE0 := fun x : Beh LeW w6.drew => (cells3 (blk_below (hzz x) GE)).1
      have zE1 := fun x : Beh LeW w6.drew => (cells3 (blk_below (hzz x) GE)).2.1
      have zE2 := fun x : Beh LeW w6.drew => (cells3 (blk_below (hzz x) GE)).2.2
      refine wp_region_late (R := LeW) 5 47 [(3, [], some (frG ((frQ (f k) 1 - meanQ f n) * (frQ (g k) 1 - meanQ g n)))), (4, [39], some (frG (scQ f g n k + (frQ (f k) 1 - meanQ f n) * (frQ (g k) 1 - meanQ g n))))] (by kernel_rfl) (by kernel_rfl) (by kernel_rfl) rfl LeW.refl (fun _ _ _ => LeW.trans) ?_
      simp only [Late, List.take_succ_cons, List.drop_succ_cons, List.take_zero, List.drop_zero, Nat.reduceSub, Nat.reduceAdd, Nat.sub_zero]
      repeat (go_big_quiet_step (fail))
      refine wpQuiet_nil ?_
      refine late_fr Tryz.func52 (by kernel_rfl) (by kernel_rfl) (fun x => times68 400 (.agg #[.bool sD, .slice AD1 nD1 cD1, .slice AD2 nD2 cD2]) (.agg #[.bool sE, .slice AE1 nE1 cE1, .slice AE2 nE2 cE2]) _ _ x.w (by omega) HE'.out.2.2.2.2.1 HE'.out.2.2.2.2.2.1 (FD.below (hzz x)) (FE.below (hzz x))) rfl (by simp only [Act.put, List.setIfInBounds_toArray, List.set_cons_succ, List.set_cons_zero]; rfl) ?_
      simp only [List.nil_append, Option.getD_some]
      refine wpQuiet_nil ?_
      refine late_fr1 [] (fun v => #[.agg #[.bool sS, .slice AS1 nS1 cS1, .slice AS2 nS2 cS2], v]) Tryz.func65 (by kernel_rfl) (by kernel_rfl) (by rfl) (fun x v hv => plus78 400 (.agg #[.bool sS, .slice AS1 nS1 cS1, .slice AS2 nS2 cS2]) v _ _ x.w (by omega) HE'.out.2.2.2.2.2.2.2 HE'.out.2.2.2.2.2.2.1 (FS.below (hzz x)) hv) (fun v => by simp only [Act.put, List.setIfInBounds_toArray, List.set_cons_succ, List.set_cons_zero]; rfl) (by simp only [Act.put, List.setIfInBounds_toArray, List.set_cons_succ, List.set_cons_zero]; rfl) ?_
      simp only [List.nil_append, List.cons_append, Option.getD_some]
      refine wpQuiet_nil ?_
      intro x
      simp only [allGens]
      rintro r0 hr0 r1 hr1
      simp only [Act.put, List.setIfInBounds_toArray, List.set_cons_succ, List.set_cons_zero]
      obtain ⟨sR, AR1, nR1, cR1, AR2, nR2, cR2, rfl, FR⟩ := FrR.sh hr1
      have hM := (hK.go (hzz x)).set (L1 := [(NX, meanQ f n), (NY, meanQ g n)]) (L2 := [(bD, frQ (f k) 1 - meanQ f n), (bE, frQ (g k) 1 - meanQ g n)]) FR
      have y1 := cells3 (blk_below (hzz x) GS)
      have y2 := free_of_block (blk_below (hzz x) GS)
      have y3 := y1.1
      clear hK FR hr0 hr1 zS0 zS1 zS2 zD0 zD1 zD2 zE0 zE1 zE2 GS FS GD FD GE FE hzz 
      generalize x.w = wy at *
      clear y3
      go_wp2_with fail
      generalize ((wy.setCell ⟨NS, 0, none⟩ (.bool sR)).setCell ⟨NS, 1, none⟩ (.slice AR1 nR1 cR1)).setCell ⟨NS, 2, none⟩ (.slice AR2 nR2 cR2) = w7 at *
      clear y1 y2
      rw [← HE.out.2] at hM
      go_roundg (n - (k + 1))
      case measure => have := HR.out; omega
      case rel => exact ⟨k + 1, by omega, rfl, by go_num, FI.front (L1 := [(NX, meanQ f n), (NY, meanQ g n), (NS, scQ f g n (k + 1))]) (L2 := [(bD, frQ (f k) 1 - meanQ f n), (bE, frQ (g k) 1 - meanQ g n)]) hM⟩
    · have hkn' : k = n := by omega
      subst hkn'
      have x1 : IntKind.i64.wrap ((k : Int) - 1) = (k : Int) - 1 := IntWalk.i64_in _ (by omega)
      have E1 := rs_of (scQ_E2 HF.out HG.out (by omega) (Nat.le_refl k)) (by omega) (by omega)
      have E2 := rs_of (n1_E2 hn5 h2) (by omega) (by omega)
      have E3 := n1_ne h2
      have E4 := cov_ref (f := f) (g := g) h2
      have HE := Lib.hid (And.intro E1 (And.intro E2 (And.intro E3 E4)))
      clear E1 E2 E3 E4
      go_upto_region 8 with fail
      have hbd : Below wr.heap.size wr wr.drew := (Below.refl _ _).drew
      have hzz : ∀ x : Beh LeW wr.drew, Below wr.heap.size wr x.w := fun x => below_trans' hbd hbd.size x.h
      obtain ⟨sS, AS1, nS1, cS1, AS2, nS2, cS2, GS, FS⟩ := hI.at NS (scQ f g k k) (by simp)
      have zS0 := fun x : Beh LeW wr.drew => (cells3 (blk_below (hzz x) GS)).1
      have zS1 := fun x : Beh LeW wr.drew => (cells3 (blk_below (hzz x) GS)).2.1
      have zS2 := fun x : Beh LeW wr.drew => (cells3 (blk_below (hzz x) GS)).2.2
      refine wp_region_late (R := LeW) 6 47 [(4, [], some (frG (frQ ((k : Int) - 1) 1))), (5, [45], some (frG (scQ f g k k / frQ ((k : Int) - 1) 1)))] (by kernel_rfl) (by kernel_rfl) (by kernel_rfl) rfl LeW.refl (fun _ _ _ => LeW.trans) ?_
      simp only [Late, List.take_succ_cons, List.drop_succ_cons, List.take_zero, List.drop_zero, Nat.reduceSub, Nat.reduceAdd, Nat.sub_zero]
      repeat (go_big_quiet_step (fail))
      refine wpQuiet_nil ?_
      refine late_fr Tryz.func30 (by kernel_rfl) (by kernel_rfl) (fun x => num30 ((k : Int) - 1) x.w (by omega) (by omega)) rfl (by simp only [Act.put, List.setIfInBounds_toArray, List.set_cons_succ, List.set_cons_zero]; rfl) ?_
      simp only [List.nil_append, Option.getD_some]
      refine wpQuiet_nil ?_
      refine late_fr1 [] (fun v => #[.agg #[.bool sS, .slice AS1 nS1 cS1, .slice AS2 nS2 cS2], v]) Tryz.func28 (by kernel_rfl) (by kernel_rfl) (by rfl) (fun x v hv => over83 400 (.agg #[.bool sS, .slice AS1 nS1 cS1, .slice AS2 nS2 cS2]) v (scQ f g k k) (frQ ((k : Int) - 1) 1) x.w (by omega) HE.out.2.2.1 HE.out.1 HE.out.2.1 (FS.below (hzz x)) hv) (fun v => by simp only [Act.put, List.setIfInBounds_toArray, List.set_cons_succ, List.set_cons_zero]; rfl) (by simp only [Act.put, List.setIfInBounds_toArray, List.set_cons_succ, List.set_cons_zero]; rfl) ?_
      simp only [List.nil_append, List.cons_append, Option.getD_some]
      refine wpQuiet_nil ?_
      intro x
      simp only [allGens]
      rintro r0 hr0 r1 hr1
      simp only [Act.put, List.setIfInBounds_toArray, List.set_cons_succ, List.set_cons_zero]
      obtain ⟨sR, AR1, nR1, cR1, AR2, nR2, cR2, rfl, FR⟩ := FrR.sh hr1
      rw [HE.out.2.2.2] at FR
      have hT := ((hI.go (hzz x)).ob _ (List.mem_cons_self ..))
      have hbe := below_set3 (hI.go (hzz x)).below hT.1 (.bool sR) (.slice AR1 nR1 cR1) (.slice AR2 nR2 cR2)
      have FR2 := FR.put hT.2 (.bool sR) (.slice AR1 nR1 cR1) (.slice AR2 nR2 cR2)
      obtain ⟨u0, u1, u2⟩ := cells3 (sets3 hT.2 (.bool sR) (.slice AR1 nR1 cR1) (.slice AR2 nR2 cR2)).1
      have y1 := cells3 hT.2
      have y2 := free_of_block hT.2
      clear hI FR hr0 hr1 hzz GS FS zS0 zS1 zS2 hT hbd
      generalize x.w = wy at *
      go_wp2_with fail
      exact bodyPost_ret (v := .agg #[.bool sR, .slice AR1 nR1 cR1, .slice AR2 nR2 cR2]) (by simp [results, Tryz.results29, go_sem, u0, u1, u2]) rfl ⟨_, rfl, FR2, hbe⟩
end Go.Proofs.YtpligjkbnlfhgaaGreatDoor
