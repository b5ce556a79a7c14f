/- The walk of flagstonelaw40.WealthSubjects. -/
import Derived.Test.YtgonighpjpfmnaaSubj0
namespace Go.Proofs.Ytgonighpjpfmnaa
open Go.RowKit

set_option maxRecDepth 100000 in
set_option maxHeartbeats 1500000 in
theorem wealthSubjects27 (a0 : Option Addr) (len0 cap0 : Nat) (z0 : List Int) (a1 a2 a3 a4 a5 : Int) (a6 a7 : Bool) (w : World) (w0 : IsRow .u8 w a0 len0 cap0 z0) (w1 : (Lit.int .u8 a1).wf = true) (w2 : (Lit.int .u8 a2).wf = true) (w3 : (Lit.int .u8 a3).wf = true) (w4 : (Lit.int .u8 a4).wf = true) (w5 : (Lit.int .u8 a5).wf = true) :
    Calls Try.prog 27 #[.slice a0 len0 cap0, .int .u8 a1, .int .u8 a2, .int .u8 a3, .int .u8 a4, .int .u8 a5, .bool a6, .bool a7] w fun e w' => e = .returned (.bool true) ∧ Below w.heap.size w w' := by
  have b1 := bounds_u8 w1
  have b2 := bounds_u8 w2
  have b3 := bounds_u8 w3
  have b4 := bounds_u8 w4
  have b5 := bounds_u8 w5
  have hB0 := w0.bytes
  clear w0 w1 w2 w3 w4 w5
  by_cases hlen : 100 < len0
  · go_enter Try.func27, Try.ntmps27
    go_wp2_with (go_at_call 44; refine (awake44 _).mono ?_; rintro e w' ⟨rfl, hb⟩)
    go_ret
    exact ⟨rfl, hb⟩
  · obtain ⟨c, hc⟩ : ∃ c, 1 + a3 % 60 = c := ⟨_, rfl⟩
    obtain ⟨t, ht⟩ : ∃ t, 1 + a4 % 60 = t := ⟨_, rfl⟩
    obtain ⟨y, hy⟩ : ∃ y, a1 % 251 = y := ⟨_, rfl⟩
    obtain ⟨u, hu⟩ : ∃ u, a2 % 251 = u := ⟨_, rfl⟩
    have hcb : 1 ≤ c ∧ c ≤ 60 := by omega
    have htb : 1 ≤ t ∧ t ≤ 60 := by omega
    have hyb : 0 ≤ y ∧ y ≤ 250 := by omega
    have hub : 0 ≤ u ∧ u ≤ 250 := by omega
    go_enter Try.func27, Try.ntmps27
    go_wp2_with fail
    refine (awake44 w).mono ?_
    rintro e w1 ⟨rfl, hb1⟩
    go_wp2_with fail
    refine (samples31 a0 len0 cap0 250 w1 (by omega) (by omega) (by omega) ((hB0.kept hb1 (Nat.le_refl _)).more' hb1.size)).mono ?_
    rintro e w2 ⟨v, l, rfl, hl, hgood, hown, hb2⟩
    obtain ⟨A, cp, rfl, hcp⟩ := Own.shape hown
    have hR := OwnSmp.rows hown
    have hb := below_trans' hb1 hb1.size hb2
    clear hown hb1 hb2 hB0
    obtain ⟨X1, X2, U, RG, he1, he2, hU, hlaw, hv1, hv2⟩ := two_scores (l := l) (c := c) (t := t) (y := y) (z := u) (b := 0) (cap := 250) (adj := a7) hgood hyb hub (by omega) (by omega) (by omega)
    have hs1 := snoc_in (x := uS 1 y 0) hgood (by omega) (by simp only [uS]; omega) (by simp only [uS]; omega)
    have hs2 := snoc_in (x := uS 2 u 0) hgood (by omega) (by simp only [uS]; omega) (by simp only [uS]; omega)
    have HE1 := Lib.hid he1
    have HE2 := Lib.hid he2
    have HS1 := Lib.hid hs1
    have HS2 := Lib.hid hs2
    have HLAW := Lib.hid hlaw
    have HUU := Lib.hid hU
    clear he1 he2 hs1 hs2 hlaw hU
    go_upto_region 9 with fail
    have gc := heap_alloc_new w2 (.cells #[.int .i64 0, .int .i64 c, .int .i64 t] 42)
    have hbW : Below w2.heap.size w2 (w2.alloc (.cells #[.int .i64 0, .int .i64 c, .int .i64 t] 42)) := (Below.refl _ _).alloc (Nat.le_refl _) _
    replace hR := (hR.below hbW (Nat.le_refl _)).more hbW.size
    replace hb := below_trans' hb hb.size hbW
    generalize w2.alloc (.cells #[.int .i64 0, .int .i64 c, .int .i64 t] 42) = w3 at *
    generalize w2.heap.size = Gc at *
    clear hbW
    have hle : ∀ z : Beh (RK w3.heap.size l (uS 1 y 0)) w3.drew, Below w3.heap.size w3 z.w := fun z => Below.trans (Below.refl _ w3).drew z.h.1
    have hsz : ∀ z : Beh (RK w3.heap.size l (uS 1 y 0)) w3.drew, w3.heap.size ≤ z.w.heap.size := fun z => (hle z).size
    have zc : ∀ z : Beh (RK w3.heap.size l (uS 1 y 0)) w3.drew, z.w.heap[Gc]? = some (.cells #[.int .i64 0, .int .i64 c, .int .i64 t] 42 (0, 0)) := fun z => ((hle z).block _ (lt_of_blk gc)).trans gc
    have r0 : ∀ z : Beh (RK w3.heap.size l (uS 1 y 0)) w3.drew, z.w.cell? ⟨Gc, 0, none⟩ = some (.int .i64 0) := fun z => cell_of_block (zc z) 0
    have r1 : ∀ z : Beh (RK w3.heap.size l (uS 1 y 0)) w3.drew, z.w.cell? ⟨Gc, 1, none⟩ = some (.int .i64 c) := fun z => cell_of_block (zc z) 1
    have r2 : ∀ z : Beh (RK w3.heap.size l (uS 1 y 0)) w3.drew, z.w.cell? ⟨Gc, 2, none⟩ = some (.int .i64 t) := fun z => cell_of_block (zc z) 2
    have hRz : ∀ z : Beh (RK w3.heap.size l (uS 1 y 0)) w3.drew, RowsAt z.w z.w.heap.size 10 A l.length (fun i => (l.getD i default).cells) := fun z => (hR.below (hle z) (Nat.le_refl _)).more (hsz z)
    refine wp_region_loose (R := RK w3.heap.size l (uS 1 y 0)) 17 139 [15] [(0, [], some (freshS w3.heap.size #[] 34 0)), (2, [57], some (P61 w3.heap.size l)), (6, [], some (freshS w3.heap.size (uS 1 y 0).cells.toArray 34 1)), (7, [59, 63], some (P64 w3.heap.size l (uS 1 y 0))), (12, [64], none), (16, [], some (fresh w3.heap.size #[.int .i64 0, .int .i64 0, .int .i64 0] 37))] (by kernel_rfl) (by kernel_rfl) (by kernel_rfl) (by kernel_rfl) (fun _ _ _ _ _ _ h => h) rfl (RK.refl _ _ _) (fun _ _ _ => RK.trans _ _ _) ?_
    simp only [Late, List.take_succ_cons, List.drop_succ_cons, List.take_zero, List.drop_zero, Nat.reduceSub, Nat.reduceAdd, Nat.sub_zero]
    refine wpQuiet_nil ?_
    refine late_buildR (fun w => by kernel_rfl) (fun z => RK.of_le _ _ _ (hsz z) ((Below.refl _ _).alloc (Nat.le_refl _) _)) (fun v _ _ h => h.2.1 v) hsz (by simp only [Act.put, List.setIfInBounds_toArray, List.set_cons_succ, List.set_cons_zero]; rfl) ?_
    repeat (go_big_quiet_step (rfl))
    refine wpQuiet_nil ?_
    refine late_app1 (c2 := .slice A l.length cp) (fun v _ _ h => h.2.2.1 v) (fun _ => rfl) (fun z v59 h59 => empty_append _ l (uS 1 y 0) (hsz z) (by omega) h59 A cp (hRz z)) (by simp only [Act.put, List.setIfInBounds_toArray, List.set_cons_succ, List.set_cons_zero]; rfl) ?_
    repeat (go_big_quiet_step (rfl))
    refine wpQuiet_nil ?_
    refine late_buildR (fun w => by kernel_rfl) (fun z => RK.of_le _ _ _ (hsz z) ((Below.refl _ _).alloc (Nat.le_refl _) _)) (fun v _ _ h => h.2.2.2.1 v) hsz (by simp only [Act.put, List.setIfInBounds_toArray, List.set_cons_succ, List.set_cons_zero]; rfl) ?_
    refine wpQuiet_nil ?_
    refine late_app2 (by decide) (fun v _ _ h => h.2.2.2.2.1 v) (fun _ _ => rfl) (fun z v61 v63 h61 h63 => append_keeps _ l (uS 1 y 0) (hsz z) (by omega) h61 h63) (by simp only [Act.put, List.setIfInBounds_toArray, List.set_cons_succ, List.set_cons_zero]; rfl) ?_
    repeat (go_big_quiet_step (rfl))
    refine wpQuiet_nil ?_
    refine late_callg (args := [.tmp 64, .tmp 66, .tmp 67, .const (.int .i64 250), .tmp 68]) (rest := [.int .i64 l.length, .agg #[.int .i64 0, .int .i64 c, .int .i64 t], .int .i64 250, .bool a7]) (c := .tuple #[.agg #[.int .i64 X1, .int .i64 U, .int .i64 RG], .bool true]) Try.func38 (by kernel_rfl) (by kernel_rfl) (by decide) (by decide) (by decide) (fun _ => rfl) (fun z v h64 => by
        obtain ⟨ho, g, cap, rfl⟩ := h64
        have hlen : (l ++ [uS 1 y 0]).length = l.length + 1 := by simp
        have hr := OwnSmp.rows (l := l ++ [uS 1 y 0]) ho
        rw [hlen] at hr
        have hcp2 : l.length + 1 ≤ cap := by obtain ⟨_, _, hs, hc⟩ := Own.shape ho; rw [hlen] at hs hc; injection hs with _ _ hs; omega
        refine (of38 (some ⟨g, 0, none⟩) (l.length + 1) cap (fun i => (l ++ [uS 1 y 0]).getD i default) l.length 0 c t 250 a7 z.w (by omega) hcp2 hr HS1.out).mono fun e w' h => ?_
        obtain ⟨he, hb⟩ := h.some HE1.out
        exact ⟨he, RK.of_le _ _ _ (hsz z) hb⟩) (by simp only [Act.put, List.setIfInBounds_toArray, List.set_cons_succ, List.set_cons_zero]; rfl) ?_
    repeat (go_big_quiet_step (rfl))
    refine wpQuiet_nil ?_
    refine late_allocR (fun _ _ => by kernel_rfl) (fun z => RK.of_le _ _ _ (hsz z) ((Below.refl _ _).alloc (Nat.le_refl _) _)) (fun v _ _ h => h.2.2.2.2.2 v) hsz (by simp only [Act.put, List.setIfInBounds_toArray, List.set_cons_succ, List.set_cons_zero]; rfl) ?_
    refine wpQuiet_nil ?_
    intro z
    simp only [List.nil_append, List.cons_append, allGens, Option.getD_some]
    rintro v57 _ v59 _ v63 _ v64 _ v23 ⟨g23, rfl, hg23, hb23⟩
    simp only [Act.put, List.setIfInBounds_toArray, List.set_cons_succ, List.set_cons_zero]
    have hlz := hle z
    clear hle hsz zc hRz r0 r1 r2
    generalize z.w = w4 at *
    have y0 := cell_of_block hb23 0
    have y1 := cell_of_block hb23 1
    have y2 := cell_of_block hb23 2
    have y3 := free_of_block hb23
    simp only [List.getElem?_toArray, List.getElem?_cons_zero, List.getElem?_cons_succ] at y0 y1 y2
    go_upto_region 10 with fail
    have k20 : (((w4.setCell ⟨g23, 0, none⟩ (.int .i64 X1)).setCell ⟨g23, 1, none⟩ (.int .i64 U)).setCell ⟨g23, 2, none⟩ (.int .i64 RG)).heap[g23]? = some (.cells #[.int .i64 X1, .int .i64 U, .int .i64 RG] 37 (0, 0)) := block_set (block_set (block_set hb23 0 _) 1 _) 2 _
    have hl5 : Below w3.heap.size w3 (((w4.setCell ⟨g23, 0, none⟩ (.int .i64 X1)).setCell ⟨g23, 1, none⟩ (.int .i64 U)).setCell ⟨g23, 2, none⟩ (.int .i64 RG)) := ((hlz.setCell hg23 _).setCell hg23 _).setCell hg23 _
    clear y0 y1 y2 y3 hb23 hlz
    generalize (((w4.setCell ⟨g23, 0, none⟩ (.int .i64 X1)).setCell ⟨g23, 1, none⟩ (.int .i64 U)).setCell ⟨g23, 2, none⟩ (.int .i64 RG)) = w5 at *
    replace gc := (hl5.block _ (lt_of_blk gc)).trans gc
    replace hR := (hR.below hl5 (Nat.le_refl _)).more hl5.size
    replace hb := below_trans' hb hb.size hl5
    clear hl5 hg23
    have hle : ∀ z : Beh (RK w5.heap.size l (uS 2 u 0)) w5.drew, Below w5.heap.size w5 z.w := fun z => Below.trans (Below.refl _ w5).drew z.h.1
    have hsz : ∀ z : Beh (RK w5.heap.size l (uS 2 u 0)) w5.drew, w5.heap.size ≤ z.w.heap.size := fun z => (hle z).size
    have zc : ∀ z : Beh (RK w5.heap.size l (uS 2 u 0)) w5.drew, z.w.heap[Gc]? = some (.cells #[.int .i64 0, .int .i64 c, .int .i64 t] 42 (0, 0)) := fun z => ((hle z).block _ (lt_of_blk gc)).trans gc
    have r0 : ∀ z : Beh (RK w5.heap.size l (uS 2 u 0)) w5.drew, z.w.cell? ⟨Gc, 0, none⟩ = some (.int .i64 0) := fun z => cell_of_block (zc z) 0
    have r1 : ∀ z : Beh (RK w5.heap.size l (uS 2 u 0)) w5.drew, z.w.cell? ⟨Gc, 1, none⟩ = some (.int .i64 c) := fun z => cell_of_block (zc z) 1
    have r2 : ∀ z : Beh (RK w5.heap.size l (uS 2 u 0)) w5.drew, z.w.cell? ⟨Gc, 2, none⟩ = some (.int .i64 t) := fun z => cell_of_block (zc z) 2
    have hRz : ∀ z : Beh (RK w5.heap.size l (uS 2 u 0)) w5.drew, RowsAt z.w z.w.heap.size 10 A l.length (fun i => (l.getD i default).cells) := fun z => (hR.below (hle z) (Nat.le_refl _)).more (hsz z)
    refine wp_region_loose (R := RK w5.heap.size l (uS 2 u 0)) 17 139 [15] [(0, [], some (freshS w5.heap.size #[] 34 0)), (2, [73], some (P61 w5.heap.size l)), (6, [], some (freshS w5.heap.size (uS 2 u 0).cells.toArray 34 1)), (7, [75, 79], some (P64 w5.heap.size l (uS 2 u 0))), (12, [80], none), (16, [], some (fresh w5.heap.size #[.int .i64 0, .int .i64 0, .int .i64 0] 37))] (by kernel_rfl) (by kernel_rfl) (by kernel_rfl) (by kernel_rfl) (fun _ _ _ _ _ _ h => h) rfl (RK.refl _ _ _) (fun _ _ _ => RK.trans _ _ _) ?_
    simp only [Late, List.take_succ_cons, List.drop_succ_cons, List.take_zero, List.drop_zero, Nat.reduceSub, Nat.reduceAdd, Nat.sub_zero]
    refine wpQuiet_nil ?_
    refine late_buildR (fun w => by kernel_rfl) (fun z => RK.of_le _ _ _ (hsz z) ((Below.refl _ _).alloc (Nat.le_refl _) _)) (fun v _ _ h => h.2.1 v) hsz (by simp only [Act.put, List.setIfInBounds_toArray, List.set_cons_succ, List.set_cons_zero]; rfl) ?_
    repeat (go_big_quiet_step (rfl))
    refine wpQuiet_nil ?_
    refine late_app1 (c2 := .slice A l.length cp) (fun v _ _ h => h.2.2.1 v) (fun _ => rfl) (fun z v59 h59 => empty_append _ l (uS 2 u 0) (hsz z) (by omega) h59 A cp (hRz z)) (by simp only [Act.put, List.setIfInBounds_toArray, List.set_cons_succ, List.set_cons_zero]; rfl) ?_
    repeat (go_big_quiet_step (rfl))
    refine wpQuiet_nil ?_
    refine late_buildR (fun w => by kernel_rfl) (fun z => RK.of_le _ _ _ (hsz z) ((Below.refl _ _).alloc (Nat.le_refl _) _)) (fun v _ _ h => h.2.2.2.1 v) hsz (by simp only [Act.put, List.setIfInBounds_toArray, List.set_cons_succ, List.set_cons_zero]; rfl) ?_
    refine wpQuiet_nil ?_
    refine late_app2 (by decide) (fun v _ _ h => h.2.2.2.2.1 v) (fun _ _ => rfl) (fun z v61 v63 h61 h63 => append_keeps _ l (uS 2 u 0) (hsz z) (by omega) h61 h63) (by simp only [Act.put, List.setIfInBounds_toArray, List.set_cons_succ, List.set_cons_zero]; rfl) ?_
    repeat (go_big_quiet_step (rfl))
    refine wpQuiet_nil ?_
    refine late_callg (args := [.tmp 80, .tmp 82, .tmp 83, .const (.int .i64 250), .tmp 84]) (rest := [.int .i64 l.length, .agg #[.int .i64 0, .int .i64 c, .int .i64 t], .int .i64 250, .bool a7]) (c := .tuple #[.agg #[.int .i64 X2, .int .i64 U, .int .i64 RG], .bool true]) Try.func38 (by kernel_rfl) (by kernel_rfl) (by decide) (by decide) (by decide) (fun _ => rfl) (fun z v h64 => by
        obtain ⟨ho, g, cap, rfl⟩ := h64
        have hlen : (l ++ [uS 2 u 0]).length = l.length + 1 := by simp
        have hr := OwnSmp.rows (l := l ++ [uS 2 u 0]) ho
        rw [hlen] at hr
        have hcp2 : l.length + 1 ≤ cap := by obtain ⟨_, _, hs, hc⟩ := Own.shape ho; rw [hlen] at hs hc; injection hs with _ _ hs; omega
        refine (of38 (some ⟨g, 0, none⟩) (l.length + 1) cap (fun i => (l ++ [uS 2 u 0]).getD i default) l.length 0 c t 250 a7 z.w (by omega) hcp2 hr HS2.out).mono fun e w' h => ?_
        obtain ⟨he, hb⟩ := h.some HE2.out
        exact ⟨he, RK.of_le _ _ _ (hsz z) hb⟩) (by simp only [Act.put, List.setIfInBounds_toArray, List.set_cons_succ, List.set_cons_zero]; rfl) ?_
    repeat (go_big_quiet_step (rfl))
    refine wpQuiet_nil ?_
    refine late_allocR (fun _ _ => by kernel_rfl) (fun z => RK.of_le _ _ _ (hsz z) ((Below.refl _ _).alloc (Nat.le_refl _) _)) (fun v _ _ h => h.2.2.2.2.2 v) hsz (by simp only [Act.put, List.setIfInBounds_toArray, List.set_cons_succ, List.set_cons_zero]; rfl) ?_
    refine wpQuiet_nil ?_
    intro z
    simp only [List.nil_append, List.cons_append, allGens, Option.getD_some]
    rintro v73 _ v75 _ v79 _ v80 _ v25 ⟨g25, rfl, hg25, hb25⟩
    simp only [Act.put, List.setIfInBounds_toArray, List.set_cons_succ, List.set_cons_zero]
    have hlz := hle z
    clear hle hsz zc hRz r0 r1 r2
    generalize z.w = w6 at *
    have y0 := cell_of_block hb25 0
    have y1 := cell_of_block hb25 1
    have y2 := cell_of_block hb25 2
    have y3 := free_of_block hb25
    simp only [List.getElem?_toArray, List.getElem?_cons_zero, List.getElem?_cons_succ] at y0 y1 y2
    go_upto_region 11 with fail
    have k22 : (((w6.setCell ⟨g25, 0, none⟩ (.int .i64 X2)).setCell ⟨g25, 1, none⟩ (.int .i64 U)).setCell ⟨g25, 2, none⟩ (.int .i64 RG)).heap[g25]? = some (.cells #[.int .i64 X2, .int .i64 U, .int .i64 RG] 37 (0, 0)) := block_set (block_set (block_set hb25 0 _) 1 _) 2 _
    have hl7 : Below w5.heap.size w5 (((w6.setCell ⟨g25, 0, none⟩ (.int .i64 X2)).setCell ⟨g25, 1, none⟩ (.int .i64 U)).setCell ⟨g25, 2, none⟩ (.int .i64 RG)) := ((hlz.setCell hg25 _).setCell hg25 _).setCell hg25 _
    clear y0 y1 y2 y3 hb25 hlz
    generalize (((w6.setCell ⟨g25, 0, none⟩ (.int .i64 X2)).setCell ⟨g25, 1, none⟩ (.int .i64 U)).setCell ⟨g25, 2, none⟩ (.int .i64 RG)) = w7 at *
    replace k20 := (hl7.block _ (lt_of_blk k20)).trans k20
    replace hb := below_trans' hb hb.size hl7
    clear gc hR hl7 hg25
    have hfair := subj_fair (X1 := X1) (X2 := X2) (U := U) (R := RG) (c := c) (t := t) (y := y) (z := u) (b := a5 % 5) (W := 4398046511104) (up := a6) hv1 hv2 HUU.out HLAW.out hcb.1 htb.1 hyb hub (by omega) (by omega)
    have hvv1 := hv1
    simp only [vldS, Bool.and_eq_true, decide_eq_true_eq] at hvv1
    obtain ⟨⟨⟨⟨f1, f2⟩, f3⟩, f4⟩, f5⟩ := hvv1
    have fb1 := fac_bd X1 U RG ((u - y) * 4) (a5 % 5) a6
    have fb2 := fac_bd X2 U RG ((u - y) * 4) (a5 % 5) a6
    obtain ⟨b, hbe⟩ : ∃ b, a5 % 5 = b := ⟨_, rfl⟩
    rw [hbe] at hfair fb1 fb2
    obtain ⟨N1, hN1⟩ : ∃ N, facN X1 U RG ((u - y) * 4) b a6 = N := ⟨_, rfl⟩
    obtain ⟨N2, hN2⟩ : ∃ N, facN X2 U RG ((u - y) * 4) b a6 = N := ⟨_, rfl⟩
    obtain ⟨D, hD⟩ : ∃ N, facD X1 U RG ((u - y) * 4) b = N := ⟨_, rfl⟩
    have hD2 : facD X2 U RG ((u - y) * 4) b = D := by rw [← hfair.1, hD]
    rw [hN1, hN2, hD, hD2] at hfair
    rw [hN1, hD] at fb1
    rw [hN2, hD2] at fb2
    obtain ⟨-, hfair⟩ := hfair
    have g1 := growI_nonneg 4398046511104 N1 D
    have g2 := growI_nonneg 4398046511104 N2 D
    have g3 := growI_le 4398046511104 N1 D
    have g4 := growI_le 4398046511104 N2 D
    obtain ⟨Z1, hZ1⟩ : ∃ Z, growI 4398046511104 N1 D = Z := ⟨_, rfl⟩
    obtain ⟨Z2, hZ2⟩ : ∃ Z, growI 4398046511104 N2 D = Z := ⟨_, rfl⟩
    rw [hZ1] at g1 g3
    rw [hZ2] at g2 g4
    rw [hZ1, hZ2] at hfair
    have p1 : 0 ≤ c * Z1 := Int.mul_nonneg (by omega) g1
    have p2 : 0 ≤ t * Z2 := Int.mul_nonneg (by omega) g2
    have w1' : IntKind.i64.wrap (c * Z1) = c * Z1 := IntWalk.i64_in _ (by omega)
    have w2' : IntKind.i64.wrap (t * Z2) = t * Z2 := IntWalk.i64_in _ (by omega)
    have H1 := Lib.hid hN1
    have H2 := Lib.hid hN2
    have H3 := Lib.hid hD
    have H4 := Lib.hid hD2
    have H5 := Lib.hid hZ1
    have H6 := Lib.hid hZ2
    clear hN1 hN2 hD hD2 hZ1 hZ2
    have x0 := cell_of_block k20 0
    have x1 := cell_of_block k20 1
    have x2 := cell_of_block k20 2
    simp only [List.getElem?_toArray, List.getElem?_cons_zero, List.getElem?_cons_succ] at x0 x1 x2
    go_wp2_with fail
    refine (fac47 X1 U RG ((u - y) * 4) b a6 w7 (by omega) (by omega)).mono ?_
    rintro e w8 ⟨rfl, hb8⟩
    rw [H1.out, H3.out]
    replace k22 := (hb8.block _ (lt_of_blk k22)).trans k22
    replace hb := below_trans' hb hb.size hb8
    have y0 := cell_of_block k22 0
    have y1 := cell_of_block k22 1
    have y2 := cell_of_block k22 2
    simp only [List.getElem?_toArray, List.getElem?_cons_zero, List.getElem?_cons_succ] at y0 y1 y2
    clear hb8 x0 x1 x2
    go_wp2_with fail
    refine (fac47 X2 U RG ((u - y) * 4) b a6 w8 (by omega) (by omega)).mono ?_
    rintro e w9 ⟨rfl, hb9⟩
    rw [H2.out, H4.out]
    replace hb := below_trans' hb hb.size hb9
    clear hb9
    go_wp2_with fail
    refine (grow45 4398046511104 N1 D _ (by omega) (by omega)).mono ?_
    rintro e _ ⟨rfl, m1, rfl⟩
    rw [H5.out]
    go_wp2_with fail
    refine (grow45 4398046511104 N2 D _ (by omega) (by omega)).mono ?_
    rintro e _ ⟨rfl, m2, rfl⟩
    rw [H6.out]
    go_wp2_with fail
    go_ret
    exact ⟨rfl, below_drewN hb _⟩
end Go.Proofs.Ytgonighpjpfmnaa
