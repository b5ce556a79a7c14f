/- The walk of EstimateCovariances. -/
import Derived.Test.YtpligjkbnlfhgaaDoorNumC
namespace Go.Proofs.YtpligjkbnlfhgaaDoor
open Go.RowKit

section
variable {P : Program} {ops : Array Oper} {R : World → World → Prop} {w0 : World}
/-- An append of a new slice to one that is known. -/
theorem late_appT {dst : Option Tmp} {d : Tmp} {o1 : Operand} {ats : Array TypeId} {type : TypeId} {pos : String} {after : Array Edge} {a a' : Act} {next : List (Tmp × Pred) → Act → Prop} {φ1 φ : Pred} {c1 : Value}
    (hm : ∀ v w w', R w w' → φ v w → φ v w') (he : ∀ v, (#[o1, .tmp d] : Array Operand).toList.map (a.put (some d) v).eval = [c1, v])
    (hrun : ∀ (x : Beh R w0) v1, φ1 v1 x.w → ∃ v w', (Builtin.append_ ats type #[c1, v1]).run P x.w = .ok v w' ∧ R x.w w' ∧ φ v w')
    (hp : a.put dst undef = a') (hn : next [(d, φ1), (dst.getD 0, φ)] a') : LateAt P ops R w0 ⟨dst, .call ⟨.builtin .append, #[o1, .tmp d], ats⟩, type, pos, after, none⟩ [d] (some φ) [(d, φ1)] a next := by
  refine ⟨hm, fun x => ?_, by rw [hp]; exact hn⟩
  simp only [withGens, List.contains_cons, beq_self_eq_true, Bool.true_or, if_true]
  intro v1 hv1
  exact tOp_append (vals := #[c1, v1]) (he v1) (hrun x v1 hv1)
end
theorem BlkF.under {E : Nat} {w w' : World} {g k c : Nat} {f : Nat → Int} (b : BlkF w g k c f) (hb : Below E w w') (hg : g < E) : BlkF w' g k c f := by
  obtain ⟨cur, h1, h2, h3⟩ := b.blk
  exact ⟨⟨cur, by rw [hb.block g hg]; exact h1, h2, h3⟩, b.le, b.max⟩
theorem cov_halves {F : Nat → Int} {k : Nat} (h : ∀ i, -1048576 ≤ F i ∧ F i ≤ 1048576) (hk : k ≤ 60) : Fit (fun i => (F i).tdiv 2) k := ⟨by omega, fun i _ => by have := half_bd (h i); show -1048576 ≤ (F i).tdiv 2 ∧ (F i).tdiv 2 ≤ 1048576; omega⟩
theorem cov_sums {F G : Nat → Int} {k : Nat} (h : ∀ i, -1048576 ≤ F i ∧ F i ≤ 1048576) (g : ∀ i, -1048576 ≤ G i ∧ G i ≤ 1048576) (hk : k ≤ 60) : Fit (fun i => (F i).tdiv 2 + (G i).tdiv 2) k :=
  ⟨by omega, fun i _ => by have := half_bd (h i); have := half_bd (g i); show -1048576 ≤ (F i).tdiv 2 + (G i).tdiv 2 ∧ (F i).tdiv 2 + (G i).tdiv 2 ≤ 1048576; omega⟩

set_option maxRecDepth 100000 in
set_option maxHeartbeats 16000000 in
theorem estimateCovariances12 (a0 : Option Addr) (len0 cap0 : Nat) (a1 : Int) (w : World) (w0 : IsRows pK w a0 len0 cap0) (s0 : cap0 * 8 ≤ 140737488351232) (w1 : (Lit.int .u8 a1).wf = true) :
    Calls Tryd.prog 12 #[.slice a0 len0 cap0, .int .u8 a1] w fun e w' => e = .returned (.bool true) ∧ Below w.heap.size w w' := by
  have hs := bounds_u8 w1
  have hlc := w0.1
  obtain ⟨-, f, g, hr, hf, hg⟩ := rows_pairs w0
  have hn8 : len0 * 8 ≤ 140737488351232 := by omega
  have HP := Lib.hid (fun w (hr : Rd32 w a0 len0 f g) => pair42 a0 len0 cap0 a1 f g w hs hr hf hg hn8)
  obtain ⟨F, hF⟩ : ∃ F : Nat → Int, (fun i => numN a1 (f i)) = F := ⟨_, rfl⟩
  obtain ⟨G, hG⟩ : ∃ G : Nat → Int, (fun i => numN (a1 / 4) (g i)) = G := ⟨_, rfl⟩
  have bF : ∀ i, -1048576 ≤ F i ∧ F i ≤ 1048576 := fun i => by rw [← hF]; exact numN_bd _ _
  have bG : ∀ i, -1048576 ≤ G i ∧ G i ≤ 1048576 := fun i => by rw [← hG]; exact numN_bd _ _
  rw [hF, hG] at HP
  obtain ⟨k, hk⟩ : ∃ k, min len0 60 = k := ⟨_, rfl⟩
  rw [hk] at HP
  have hk60 : k ≤ 60 := by omega
  clear w0 w1 hf hg hF hG hk s0 hlc
  go_enter Tryd.func12, Tryd.ntmps12
  go_wp2_with fail
  refine (awake35 w).mono ?_
  rintro e u0 ⟨rfl, hb0⟩
  go_wp2_with fail
  refine (HP.out u0 (hr.below hb0)).mono ?_
  rintro e u1 ⟨A1, c1, A2, c2, rfl, o1, o2, hap, hb1⟩
  have hB := below_trans' hb0 hb0.size hb1
  have hsz0 := hb0.size
  clear HP hb1 hr
  by_cases h2 : k < 2
  · have h2I : (k : Int) < 2 := by omega
    go_wp2_with fail
    go_ret
    exact ⟨rfl, hB⟩
  have h2I : ¬ (k : Int) < 2 := by omega
  obtain ⟨g1, rfl, hg1, B1⟩ := o1.blk (by omega)
  obtain ⟨g2, rfl, hg2, B2⟩ := o2.blk (by omega)
  have hne : g1 ≠ g2 := fun e => hap g1 rfl (by rw [e]; rfl)
  clear o1 o2 hap
  -- the sums
  have cF := cov_halves bF hk60
  have cG := cov_halves bG hk60
  have cS := cov_sums bF bG hk60
  have k2 : 2 ≤ k := by omega
  obtain ⟨P1, P2, -, T1⟩ := txV_tx ((cov_E2 cF cG k2).fits (by decide) (by decide))
  obtain ⟨Q1, Q2, -, T2⟩ := txV_tx ((cov_E2 cF cF k2).fits (by decide) (by decide))
  obtain ⟨R1, R2, -, T3⟩ := txV_tx ((cov_E2 cF cS k2).fits (by decide) (by decide))
  obtain ⟨M1, M2, -, T4⟩ := txV_tx ((mean_E2 cF (by omega)).fits (by decide) (by decide))
  obtain ⟨V1, V2, -, T5⟩ := txV_tx ((var_E2 cF k2).fits (by decide) (by decide))
  obtain ⟨K1, K2, T6, hK⟩ := frac37 (a := (k : Int)) (b := 1) (by decide) (by omega) (by omega) (by decide) (by decide) ((n_E2 (n := k) (by omega)).fits (by decide) (by decide))
  have T1' : Tx P1 P2 (covQ (fun i => (G i).tdiv 2) (fun i => (F i).tdiv 2) k) := by rw [covQ_comm]; exact T1
  have T3' : Tx R1 R2 (covQ (fun i => (F i).tdiv 2) (fun i => (F i).tdiv 2) k + covQ (fun i => (F i).tdiv 2) (fun i => (G i).tdiv 2) k) := by rw [cov_add]; exact T3
  have T2' : Tx Q1 Q2 (varQ (fun i => (F i).tdiv 2) k * frQ (k : Int) 1) := by rw [var_mul k2]; exact T2
  obtain ⟨hQ0, hQ1⟩ := num_pos T2 (cov_nonneg k2)
  replace hQ1 := hQ1 hQ0
  have hQ2 : ((Q1[0].toNat : Int) != 45) = true := by simpa using hQ1
  clear hQ1
  have C1 := Lib.hid (fun w (h : BlkF w g1 k c1 (fun i => (F i).tdiv 2)) (h' : BlkF w g2 k c2 (fun i => (G i).tdiv 2)) => covariance43 _ _ k c1 c2 _ _ P1 P2 w h.ints h'.ints cF cG k2 T1)
  have C2 := Lib.hid (fun w (h : BlkF w g1 k c1 (fun i => (F i).tdiv 2)) (h' : BlkF w g2 k c2 (fun i => (G i).tdiv 2)) => covariance43 _ _ k c2 c1 _ _ P1 P2 w h'.ints h.ints cG cF k2 T1')
  have C3 := Lib.hid (fun w (h : BlkF w g1 k c1 (fun i => (F i).tdiv 2)) => covariance43 _ _ k c1 c1 _ _ Q1 Q2 w h.ints h.ints cF cF k2 T2)
  have C4 := Lib.hid (fun w (A : Option Addr) (c : Nat) (h : BlkF w g1 k c1 (fun i => (F i).tdiv 2)) (h' : IntsV w A k c (fun i => (F i).tdiv 2 + (G i).tdiv 2)) => covariance43 _ _ k c1 c _ _ R1 R2 w h.ints h' cF cS k2 T3)
  have C5 := Lib.hid (fun w (h : BlkF w g1 k c1 (fun i => (F i).tdiv 2)) => of36 _ k c1 _ M1 M2 V1 V2 w h.ints cF k2 T4 T5)
  have C6 := Lib.hid (refAdd T2 T1 T3')
  have C7 := Lib.hid (refMul T5 T6 T2')
  have C8 : Hid (∀ w, Calls Tryd.prog 37 #[.int .i64 (k : Int), .int .i64 1] w fun e w' => e = .returned (.agg #[.string K1, .string K2]) ∧ Below w.heap.size w w') := Lib.hid fun w => hK w
  have BF := Lib.hid bF
  have BG := Lib.hid bG
  clear T1 T2 T3 T4 T5 T6 T1' T2' T3' hK bF bG cF cG cS
  generalize hE : u1.heap.size = E at *
  have HE := Lib.hid hE
  have hgE1 : g1 < E := by rw [← hE]; exact B1.lt
  have hgE2 : g2 < E := by rw [← hE]; exact B2.lt
  clear hE
  go_wp2_with fail
  go_loopg [7, 8] (k + 1) (fun m s i wr => ∃ (j cs : Nat) (As : Option Addr) (ls : List Int), j ≤ k ∧ m = k + 1 - j ∧ i = .int .i64 j ∧ s = .slice As j cs ∧ ls.length = j ∧ Hid (∀ i, i < j → ls.getD i 0 = (F i).tdiv 2 + (G i).tdiv 2) ∧ BlkF wr g1 k c1 (hvF F j) ∧ BlkF wr g2 k c2 (hvF G j) ∧ Own intC 3 1 wr E (.slice As j cs) ls ∧ E ≤ wr.heap.size ∧ Below w.heap.size w wr)
  case atStart => exact ⟨0, 0, none, [], by omega, rfl, rfl, rfl, rfl, Lib.hid (fun i h => absurd h (by omega)), B1.congr (fun i hi => by simp [hvF]), B2.congr (fun i hi => by simp [hvF]), Own.nil _ _ _ _ _, by have := HE.out; omega, hB⟩
  case round =>
    clear B1 B2 hB
    obtain ⟨j, cs, As, ls, hj, hm, rfl, rfl, hls, hgood, B1, B2, hos, hEr, hbr⟩ := hrel
    have HM := Lib.hid hm
    have HLS := Lib.hid hls
    clear hm hls
    by_cases hlt : j < k
    · have hltI : (j : Int) < k := by omega
      obtain ⟨x, hx⟩ : ∃ x, F j = x := ⟨_, rfl⟩
      obtain ⟨y, hy⟩ : ∃ y, G j = y := ⟨_, rfl⟩
      have ux := BF.out j
      have uy := BG.out j
      have x1 := B1.cell hlt
      have x2 := B2.cell hlt
      have e1 : hvF F j j = x := by unfold hvF; rw [if_neg (by omega), hx]
      have e2 : hvF G j j = y := by unfold hvF; rw [if_neg (by omega), hy]
      rw [e1] at x1
      rw [e2] at x2
      rw [hx] at ux
      rw [hy] at uy
      have HX := Lib.hid hx
      have HY := Lib.hid hy
      have ux2 := half_bd ux
      have uy2 := half_bd uy
      have f1 := B1.free
      have f2 := B2.free
      have n1 : ¬ g1 = g2 := hne
      have n2 : ¬ g2 = g1 := fun e => hne e.symm
      clear hx hy e1 e2
      go_wp2_with fail
      go_region
      have d1 := ((B1.set j (x.tdiv 2)).other n2 j (.int .i64 (y.tdiv 2))).congr (f' := hvF F (j + 1)) (fun i _ => by rw [← hvF_succ, HX.out])
      have d2 := ((B2.other n1 j (.int .i64 (x.tdiv 2))).set j (y.tdiv 2)).congr (f' := hvF G (j + 1)) (fun i _ => by rw [← hvF_succ, HY.out])
      have ho1 := hos.only (w' := wr.setCell ⟨g1, j, none⟩ (.int .i64 (x.tdiv 2))) (g := g1) (only_setCell (only_refl _ _) (.inl rfl) _) hgE1
      have ho2 := ho1.only (w' := (wr.setCell ⟨g1, j, none⟩ (.int .i64 (x.tdiv 2))).setCell ⟨g2, j, none⟩ (.int .i64 (y.tdiv 2))) (g := g2) (only_setCell (only_refl _ _) (.inl rfl) _) hgE2
      have hb2 := (hbr.setCell (p := ⟨g1, j, none⟩) (Nat.le_trans hsz0 hg1) (.int .i64 (x.tdiv 2))).setCell (p := ⟨g2, j, none⟩) (Nat.le_trans hsz0 hg2) (.int .i64 (y.tdiv 2))
      have hE2 : E ≤ ((wr.setCell ⟨g1, j, none⟩ (.int .i64 (x.tdiv 2))).setCell ⟨g2, j, none⟩ (.int .i64 (y.tdiv 2))).heap.size := by simpa [World.setCell] using hEr
      clear x1 x2 f1 f2 B1 B2 hos ho1 hbr hEr
      generalize (wr.setCell ⟨g1, j, none⟩ (.int .i64 (x.tdiv 2))).setCell ⟨g2, j, none⟩ (.int .i64 (y.tdiv 2)) = U at *
      obtain ⟨X, hX⟩ : ∃ z, x.tdiv 2 = z := ⟨_, rfl⟩
      obtain ⟨Y, hY⟩ : ∃ z, y.tdiv 2 = z := ⟨_, rfl⟩
      have y1 := d1.cell hlt
      have y2 := d2.cell hlt
      have e1 : hvF F (j + 1) j = X := by unfold hvF; rw [if_pos (by omega), HX.out, hX]
      have e2 : hvF G (j + 1) j = Y := by unfold hvF; rw [if_pos (by omega), HY.out, hY]
      rw [e1] at y1
      rw [e2] at y2
      rw [hX] at ux2 ⊢
      rw [hY] at uy2 ⊢
      have HX2 := Lib.hid hX
      have HY2 := Lib.hid hY
      clear e1 e2 hX hY ux uy
      have hd2 : Below U.heap.size U U.drew := (Below.refl _ _).drew
      have ho3 := Own.below ho2 hd2
      have hb3 := below_trans' hb2 hb2.size hd2
      have q1 := d1.below hd2
      have q2 := d2.below hd2
      have hE3 : E ≤ U.drew.heap.size := Nat.le_trans hE2 hd2.size
      clear ho2 hb2 d1 d2 hE2 hd2 y1 y2
      generalize U.drew = V at *
      have hrows : Rows0 V.drew E [(.slice As j cs, ls, X + Y)] := ⟨fun r hr => by
          rw [List.mem_singleton] at hr; subst hr
          exact Own.below ho3 ((Below.refl _ _).drew), fun r hr s hs => by
          rw [List.mem_singleton] at hr hs; subst hr hs
          exact .inl rfl, hE3⟩
      have hmp := PA_mono hrows (r := (.slice As j cs, ls, X + Y)) (by simp)
      have hrp := PA_run hrows (r := (.slice As j cs, ls, X + Y)) (by simp) (by have := HLS.out; simp only; omega)
      have htr := hrows.trans
      have hlt' := hrows.lt
      have hge' := hrows.ge
      have hS : ∀ z : Beh (RW (wsOf [(.slice As j cs, ls, X + Y)])) V.drew, V.drew.heap.size ≤ z.w.heap.size := fun z => z.h.size
      have hzE : ∀ z : Beh (RW (wsOf [(.slice As j cs, ls, X + Y)])) V.drew, Below E V z.w := fun z => ((Below.refl V.heap.size V).drew.mono hE3).trans (z.h.below hE3 hge')
      have x4 : ∀ z : Beh (RW (wsOf [(.slice As j cs, ls, X + Y)])) V.drew, z.w.cell? ⟨g1, j, none⟩ = some (.int .i64 X) := fun z => by
        have := (q1.under (hzE z) hgE1).cell hlt
        rw [this]; unfold hvF; rw [if_pos (by omega), HX.out, HX2.out]
      have x5 : ∀ z : Beh (RW (wsOf [(.slice As j cs, ls, X + Y)])) V.drew, z.w.cell? ⟨g2, j, none⟩ = some (.int .i64 Y) := fun z => by
        have := (q2.under (hzE z) hgE2).cell hlt
        rw [this]; unfold hvF; rw [if_pos (by omega), HY.out, HY2.out]
      generalize hSe : V.drew.heap.size = S at *
      clear hSe
      go_wp2_with fail
      refine wp_region_pair (R := RW (wsOf [(.slice As j cs, ls, X + Y)])) (fun v u => v.ownBlock ≠ u.ownBlock) 12 137 [] [(10, [], some (freshS S #[.int .i64 (X + Y)] 3 1), []), (11, [66], some (PA E S (.slice As j cs, ls, X + Y)), [])] [] []
        (by kernel_rfl) (by kernel_rfl) (by kernel_rfl) (by kernel_rfl) (fun h => absurd rfl h) rfl (RW.refl _) htr (fun _ _ h => Ne.symm h) ⟨by kernel_rfl, by decide, by decide⟩ (fun i hi => by cases hi) ?_
      simp only [LateP, List.take_succ_cons, List.drop_succ_cons, List.take_zero, List.drop_zero, Nat.reduceSub, Nat.reduceAdd, Nat.sub_zero]
      repeat (go_big_quiet_step (rfl))
      refine wpQuiet_nil ?_
      refine late_buildR (fun w => by kernel_rfl) (fun z => RW.of_le ((Below.refl _ _).alloc (Nat.le_refl _) _)) (freshS_rw hlt') hS (by simp only [Act.put, List.setIfInBounds_toArray, List.set_cons_succ, List.set_cons_zero]; rfl) ?_
      refine wpQuiet_nil ?_
      refine late_appT hmp (fun _ => rfl) (fun z u hu => ?_) (by simp only [Act.put, List.setIfInBounds_toArray, List.set_cons_succ, List.set_cons_zero]; rfl) ?_
      · obtain ⟨v', w', e1, e2, e3, e4⟩ := hrp z u hu
        exact ⟨v', w', e1, e2, e3⟩
      refine wpQuiet_nil ?_
      intro z
      simp only [allGens, Option.getD_some]
      rintro v66 _ v67 p67 -
      simp only [Act.put, List.setIfInBounds_toArray, List.set_cons_succ, List.set_cons_zero]
      have hbz := hzE z
      obtain ⟨o67, -, -⟩ := p67
      have r1 := q1.under hbz hgE1
      have r2 := q2.under hbz hgE2
      have hb4 := hb3.trans (hbz.mono (by omega))
      have hE4 := Nat.le_trans hE3 hbz.size
      clear x4 x5 hzE hS hrp hmp htr hlt' hge' hrows ho3 q1 q2 hb3 hE3 hbz
      generalize z.w = w4 at *
      have e67 : (ls ++ [X + Y]).length = j + 1 := by simp [HLS.out]
      obtain ⟨A67, c67, rfl, -⟩ := Own.shape o67
      rw [e67] at o67 ⊢
      have E67 := Lib.hid e67
      clear e67
      go_wp2_with fail
      go_roundg (k + 1 - (j + 1))
      case measure => have := HM.out; omega
      case rel =>
        refine ⟨j + 1, c67, A67, _, by omega, rfl, by go_num, rfl, E67.out, Lib.hid ?_, r1, r2, o67, hE4, hb4⟩
        have h1 := HLS.out
        subst h1
        exact getD_snoc hgood.out (by rw [HX.out, HY.out, HX2.out, HY2.out])
    · have hjk : j = k := by omega
      subst hjk
      have hltI : ¬ (j : Int) < j := by omega
      have q1 := B1.congr (f' := fun i => (F i).tdiv 2) (fun i hi => by unfold hvF; rw [if_pos hi])
      have q2 := B2.congr (f' := fun i => (G i).tdiv 2) (fun i hi => by unfold hvF; rw [if_pos hi])
      have hsum : OwnF wr E (.slice As j cs) j (fun i => (F i).tdiv 2 + (G i).tdiv 2) := ⟨ls, HLS.out, hgood.out, hos⟩
      have iv := hsum.intsV
      clear hsum hos hgood HLS HM B1 B2 BF BG hlt hEr hgE1 hgE2 HE hg1 hg2
      go_wp2_with fail
      refine (C1.out _ q1 q2).mono ?_
      rintro e w1 ⟨rfl, hbq⟩
      have hst := below_trans' hbq hbq.size ((Below.refl w1.heap.size w1).alloc (Nat.le_refl _) (.cells #[.string P1, .string P2] 23))
      have t1 := heap_alloc_new w1 (.cells #[.string P1, .string P2] 23)
      replace q1 := q1.below hst
      replace q2 := q2.below hst
      replace iv := iv.below hst
      replace hbr := below_trans' hbr hbr.size hst
      clear hst hbq
      go_wp2_with fail
      generalize w1.alloc (.cells #[.string P1, .string P2] 23) = v1 at *
      generalize w1.heap.size = N1 at *
      refine (C2.out _ q1 q2).mono ?_
      rintro e w2 ⟨rfl, hbq⟩
      have hst := below_trans' hbq hbq.size ((Below.refl w2.heap.size w2).alloc (Nat.le_refl _) (.cells #[.string P1, .string P2] 23))
      have t2 := heap_alloc_new w2 (.cells #[.string P1, .string P2] 23)
      replace q1 := q1.below hst
      replace q2 := q2.below hst
      replace iv := iv.below hst
      replace t1 := blk_below hst t1
      replace hbr := below_trans' hbr hbr.size hst
      clear hst hbq
      go_wp2_with fail
      generalize w2.alloc (.cells #[.string P1, .string P2] 23) = v2 at *
      generalize w2.heap.size = N2 at *
      refine (C3.out _ q1).mono ?_
      rintro e w3 ⟨rfl, hbq⟩
      have hst := below_trans' hbq hbq.size ((Below.refl w3.heap.size w3).alloc (Nat.le_refl _) (.cells #[.string Q1, .string Q2] 23))
      have t3 := heap_alloc_new w3 (.cells #[.string Q1, .string Q2] 23)
      replace q1 := q1.below hst
      replace iv := iv.below hst
      replace t1 := blk_below hst t1
      replace t2 := blk_below hst t2
      replace hbr := below_trans' hbr hbr.size hst
      clear hst hbq
      go_wp2_with fail
      generalize w3.alloc (.cells #[.string Q1, .string Q2] 23) = v3 at *
      generalize w3.heap.size = N3 at *
      refine (C4.out _ _ _ q1 iv).mono ?_
      rintro e w4 ⟨rfl, hbq⟩
      have hst := below_trans' hbq hbq.size ((Below.refl w4.heap.size w4).alloc (Nat.le_refl _) (.cells #[.string R1, .string R2] 23))
      have t4 := heap_alloc_new w4 (.cells #[.string R1, .string R2] 23)
      replace q1 := q1.below hst
      replace t1 := blk_below hst t1
      replace t2 := blk_below hst t2
      replace t3 := blk_below hst t3
      replace hbr := below_trans' hbr hbr.size hst
      clear hst hbq
      go_wp2_with fail
      generalize w4.alloc (.cells #[.string R1, .string R2] 23) = v4 at *
      generalize w4.heap.size = N4 at *
      refine (C5.out _ q1).mono ?_
      rintro e w5 ⟨rfl, hbq⟩
      have hst := below_trans' hbq hbq.size ((Below.refl w5.heap.size w5).alloc (Nat.le_refl _) (.cells #[.int .i64 j, .string M1, .string M2, .string V1, .string V2] 48))
      have t5 := heap_alloc_new w5 (.cells #[.int .i64 j, .string M1, .string M2, .string V1, .string V2] 48)
      replace t1 := blk_below hst t1
      replace t2 := blk_below hst t2
      replace t3 := blk_below hst t3
      replace t4 := blk_below hst t4
      replace hbr := below_trans' hbr hbr.size hst
      clear hst hbq
      have k1 := cells2 t1
      have k3 := cells2 t3
      go_wp2_with fail
      generalize w5.alloc (.cells #[.int .i64 j, .string M1, .string M2, .string V1, .string V2] 48) = v5 at *
      generalize w5.heap.size = N5 at *
      clear k1 k3
      refine (C6.out _).mono ?_
      rintro e w6 ⟨rfl, hbq⟩
      have hst := below_trans' hbq hbq.size ((Below.refl w6.heap.size w6).alloc (Nat.le_refl _) (.cells #[.string R1, .string R2] 23))
      have t6 := heap_alloc_new w6 (.cells #[.string R1, .string R2] 23)
      replace t1 := blk_below hst t1
      replace t2 := blk_below hst t2
      replace t3 := blk_below hst t3
      replace t4 := blk_below hst t4
      replace t5 := blk_below hst t5
      replace hbr := below_trans' hbr hbr.size hst
      clear hst hbq
      go_wp2_with fail
      generalize w6.alloc (.cells #[.string R1, .string R2] 23) = v6 at *
      generalize w6.heap.size = N6 at *
      have hbd : Below v6.heap.size v6 v6.drew := (Below.refl _ _).drew
      have hzz : ∀ x : Beh LeW v6.drew, Below v6.heap.size v6 x.w := fun x => below_trans' hbd hbd.size x.h
      have z1 : ∀ x : Beh LeW v6.drew, x.w.cell? ⟨N5, 3, none⟩ = some (.string V1) := fun x => (cells5 (blk_below (hzz x) t5)).2.2.2.1
      have z2 : ∀ x : Beh LeW v6.drew, x.w.cell? ⟨N5, 4, none⟩ = some (.string V2) := fun x => (cells5 (blk_below (hzz x) t5)).2.2.2.2
      refine wp_region_loose (R := LeW) 10 137 [8] [(4, [], none), (5, [], none), (9, [], some (fresh v6.heap.size #[.string ⟨#[]⟩, .string ⟨#[]⟩] 23))] (by kernel_rfl) (by kernel_rfl) (by kernel_rfl) (by kernel_rfl) (fun _ _ _ _ _ _ h => h) rfl LeW.refl (fun _ _ _ => LeW.trans) ?_
      simp only [Late, List.take_succ_cons, List.drop_succ_cons, List.take_zero, List.drop_zero, Nat.reduceSub, Nat.reduceAdd, Nat.sub_zero]
      repeat (go_big_quiet_step (fail))
      refine wpQuiet_nil ?_
      refine late_call Tryd.func37 (by kernel_rfl) (by kernel_rfl) (fun x => C8.out x.w) rfl (by simp only [Act.put, List.setIfInBounds_toArray, List.set_cons_succ, List.set_cons_zero]; rfl) ?_
      refine wpQuiet_nil ?_
      refine late_call Tryd.func26 (by kernel_rfl) (by kernel_rfl) (fun x => C7.out x.w) rfl (by simp only [Act.put, List.setIfInBounds_toArray, List.set_cons_succ, List.set_cons_zero]; rfl) ?_
      repeat (go_big_quiet_step (fail))
      refine wpQuiet_nil ?_
      refine late_alloc (fun _ _ => by kernel_rfl) (fun x => Nat.le_trans hbd.size x.h.size) (by simp only [Act.put, List.setIfInBounds_toArray, List.set_cons_succ, List.set_cons_zero]; rfl) ?_
      refine wpQuiet_nil ?_
      intro x
      simp only [List.nil_append, allGens, Option.getD_some]
      rintro vp ⟨D, rfl, hdD, gd⟩
      simp only [Act.put, List.setIfInBounds_toArray, List.set_cons_succ, List.set_cons_zero]
      have hst := hzz x
      have pt1 := (other_blk' (g := D) (i := 1) (x := .string Q2) (by have := lt_of_blk t1; omega)).trans ((other_blk' (g := D) (i := 0) (x := .string Q1) (by have := lt_of_blk t1; omega)).trans (blk_below hst t1))
      have pt2 := (other_blk' (g := D) (i := 1) (x := .string Q2) (by have := lt_of_blk t2; omega)).trans ((other_blk' (g := D) (i := 0) (x := .string Q1) (by have := lt_of_blk t2; omega)).trans (blk_below hst t2))
      have pt3 := (other_blk' (g := D) (i := 1) (x := .string Q2) (by have := lt_of_blk t3; omega)).trans ((other_blk' (g := D) (i := 0) (x := .string Q1) (by have := lt_of_blk t3; omega)).trans (blk_below hst t3))
      have pt4 := (other_blk' (g := D) (i := 1) (x := .string Q2) (by have := lt_of_blk t4; omega)).trans ((other_blk' (g := D) (i := 0) (x := .string Q1) (by have := lt_of_blk t4; omega)).trans (blk_below hst t4))
      have pt6 := (other_blk' (g := D) (i := 1) (x := .string Q2) (by have := lt_of_blk t6; omega)).trans ((other_blk' (g := D) (i := 0) (x := .string Q1) (by have := lt_of_blk t6; omega)).trans (blk_below hst t6))
      have y1 := cells2 gd
      have y2 := free_of_block gd
      have td := block_set (block_set gd 0 (.string Q1)) 1 (.string Q2)
      replace hbr := below_sets2 (below_trans' hbr hbr.size hst) (show _ ≤ D from Nat.le_trans hbr.size hdD) (.string Q1) (.string Q2)
      clear z1 z2 hzz hst hbd t1 t2 t3 t4 t6
      have t1 := pt1
      have t2 := pt2
      have t3 := pt3
      have t4 := pt4
      have t6 := pt6
      clear pt1 pt2 pt3 pt4 pt6
      generalize x.w = wy at *
      have m1 := cells2 t1
      have m2 := cells2 t2
      have m3 := cells2 t3
      have m4 := cells2 t4
      have m6 := cells2 t6
      have m7 := cells2 td
      clear t1 t2 t3 t4 t5 t6 td
      go_wp2_with fail
      go_ret
      exact ⟨rfl, hbr⟩
end Go.Proofs.YtpligjkbnlfhgaaDoor
