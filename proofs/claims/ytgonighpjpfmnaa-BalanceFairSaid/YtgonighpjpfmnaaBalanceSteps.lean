/- The walk of flagstonelaw42.BalanceSteps. -/
import Derived.Test.YtgonighpjpfmnaaTwo
import Derived.Test.YtgonighpjpfmnaaAwake42
import Derived.Test.YtgonighpjpfmnaaWealthGrows
namespace Go.Proofs.Ytgonighpjpfmnaa
open Go.RowKit

theorem own_shape2 {w : World} {B : Nat} {v : Value} {l : List Int} (h : Own intC 3 1 w B v l) : ∃ A cap, v = .slice A l.length cap ∧ l.length ≤ cap ∧ RowsAt w w.heap.size 1 A l.length (fun i => [.int .i64 (l.getD i 0)]) := by
  obtain ⟨A, cap, rfl, hc⟩ := Own.shape h
  exact ⟨A, cap, rfl, hc, Own.rows (c := intC) intC_len 0 h⟩

set_option maxRecDepth 100000 in
set_option maxHeartbeats 2000000 in
theorem balanceSteps14 (a0 : Int) (a1 : Option Addr) (len1 cap1 : Nat) (z1 : List Int) (a2 : Option Addr) (len2 cap2 : Nat) (z2 : List Int) (a3 : Int) (a4 : Option Addr) (len4 cap4 : Nat) (z4 : List Int) (a5 : Option Addr) (len5 cap5 : Nat) (z5 : List Int) (a6 : Int) (w : World)
    (w0 : (Lit.int .i64 a0).wf = true) (w1 : IsRow .i64 w a1 len1 cap1 z1) (w2 : IsRow .i64 w a2 len2 cap2 z2) (w3 : (Lit.int .i64 a3).wf = true) (w4 : IsRow .u16 w a4 len4 cap4 z4) (w5 : IsRow .u16 w a5 len5 cap5 z5) (w6 : (Lit.int .u8 a6).wf = true) :
    Calls Try.prog 14 #[.int .i64 a0, .slice a1 len1 cap1, .slice a2 len2 cap2, .int .i64 a3, .slice a4 len4 cap4, .slice a5 len5 cap5, .int .u8 a6] w fun e w' => e = .returned (.bool true) ∧ Below w.heap.size w w' := by
  have b0 := bounds_i64 w0
  have b3 := bounds_i64 w3
  have b6 := bounds_u8 w6
  obtain ⟨r1, _, l1, m1⟩ := w1.rows
  obtain ⟨r2, _, l2, m2⟩ := w2.rows
  obtain ⟨r4, f4, l4, m4⟩ := w4.rows
  obtain ⟨r5, f5, l5, m5⟩ := w5.rows
  unfold maxLen at m1 m2 m4 m5
  have F4 := Lib.hid f4
  have F5 := Lib.hid f5
  clear w0 w1 w2 w3 w4 w5 w6 f4 f5
  by_cases h1 : 20 < len1
  · go_enter Try.func14, Try.ntmps14
    go_wp2_with fail
    refine (awake51 w).mono ?_
    rintro e w1 ⟨rfl, hb1⟩
    go_wp2_with fail
    go_ret
    exact ⟨rfl, hb1⟩
  by_cases h2 : 20 < len2
  · go_enter Try.func14, Try.ntmps14
    go_wp2_with fail
    refine (awake51 w).mono ?_
    rintro e w1 ⟨rfl, hb1⟩
    go_wp2_with fail
    go_ret
    exact ⟨rfl, hb1⟩
  obtain ⟨f1, hf1⟩ : ∃ f : Nat → Int, (fun i => z1.getD i 0) = f := ⟨_, rfl⟩
  obtain ⟨f2, hf2⟩ : ∃ f : Nat → Int, (fun i => z2.getD i 0) = f := ⟨_, rfl⟩
  replace r1 : RowsAt w w.heap.size 1 a1 len1 fun i => [.int .i64 (f1 i)] := by rw [← hf1]; exact r1
  replace r2 : RowsAt w w.heap.size 1 a2 len2 fun i => [.int .i64 (f2 i)] := by rw [← hf2]; exact r2
  obtain ⟨f4, hf4⟩ : ∃ f : Nat → Int, (fun i => z4.getD i 0) = f := ⟨_, rfl⟩
  obtain ⟨f5, hf5⟩ : ∃ f : Nat → Int, (fun i => z5.getD i 0) = f := ⟨_, rfl⟩
  replace r4 : RowsAt w w.heap.size 1 a4 len4 fun i => [.int .u16 (f4 i)] := by rw [← hf4]; exact r4
  replace r5 : RowsAt w w.heap.size 1 a5 len5 fun i => [.int .u16 (f5 i)] := by rw [← hf5]; exact r5
  have g4 : ∀ i, i < len4 → 0 ≤ f4 i ∧ f4 i ≤ 65535 := fun i hi => by rw [← hf4]; exact bounds_u16 (F4.out i hi)
  have g5 : ∀ i, i < len5 → 0 ≤ f5 i ∧ f5 i ≤ 65535 := fun i hi => by rw [← hf5]; exact bounds_u16 (F5.out i hi)
  replace F4 := Lib.hid g4
  replace F5 := Lib.hid g5
  clear hf1 hf2 hf4 hf5 g4 g5
  have s52 := fun w' => step52 a0 a1 a2 len1 len2 cap1 cap2 f1 f2 a3 w' (by omega) (by omega)
  have s53 := fun w' => step53 a0 a1 a2 len1 len2 cap1 cap2 f1 f2 a3 w' (by omega) (by omega) (by omega)
  have hlen : (balC a0 len1 len2 f1 f2 a3).length ≤ 1048576 := by
    have : (balC a0 len1 len2 f1 f2 a3).length = len1 := by unfold balC; split <;> simp
    omega
  generalize balC a0 len1 len2 f1 f2 a3 = L at *
  generalize balW a0 len1 len2 f1 f2 a3 = W at *
  have S52 := Lib.hid s52
  have S53 := Lib.hid s53
  clear s52 s53
  have c0 := half_bd a0
  obtain ⟨U0, hU0⟩ : ∃ U, IntKind.u64.wrap a0 = U := ⟨_, rfl⟩
  rw [hU0] at c0
  have d0 := div_pow_bd c0.1 (a6 % 62).toNat
  obtain ⟨X, hX⟩ : ∃ X, U0 / 2 / (2 : Int) ^ (a6 % 62).toNat = X := ⟨_, rfl⟩
  rw [hX] at d0
  obtain ⟨V, hV⟩ : ∃ V, min X (2305843009213693952 + a6 % 2) = V := ⟨_, rfl⟩
  have hVb : V ≤ 9223372036854775807 := by omega
  go_enter Try.func14, Try.ntmps14
  go_wp2_with fail
  refine (awake51 w).mono ?_
  rintro e wa ⟨rfl, hb1⟩
  go_wp2_with fail
  refine (S52.out wa ((r1.below hb1 (Nat.le_refl _)).more hb1.size) ((r2.below hb1 (Nat.le_refl _)).more hb1.size)).mono ?_
  rintro e wb ⟨o1, rfl, ho1, hb2⟩
  have hb := below_trans' hb1 hb1.size hb2
  clear hb2
  obtain ⟨A1, k1, rfl, hk1, hr1⟩ := own_shape2 ho1
  clear ho1
  go_wp2_with fail
  refine (S53.out wb ((r1.below hb (Nat.le_refl _)).more hb.size) ((r2.below hb (Nat.le_refl _)).more hb.size)).mono ?_
  rintro e wc ⟨o2, rfl, ho2, hb2⟩
  obtain ⟨A2, k2, rfl, hk2, hr2⟩ := own_shape2 ho2
  replace hr1 := (hr1.below hb2 (Nat.le_refl _)).more hb2.size
  replace hb := below_trans' hb hb.size hb2
  clear ho2 hb2 hb1
  go_wp2_with fail
  refine (same54 A1 A2 L.length k1 k2 (fun i => L.getD i 0) wc hlen hr1 hr2).mono ?_
  rintro e wd ⟨rfl, hb2⟩
  replace hb := below_trans' hb hb.size hb2
  clear hb2 hr1 hr2 hk1 hk2 S52 S53 hlen
  go_wp2_with fail
  have hgd : wd.heap.size ≤ wd.heap.size := Nat.le_refl _
  go_loopg [21, 19, 20] 10 (fun m i p q wr => ∃ (k cp cq : Nat) (Ap Aq : Option Addr) (lp lq : List Int), k ≤ 9 ∧ k ≤ len4 ∧ k ≤ len5 ∧ m = 10 - k ∧ i = .int .i64 k ∧ p = .slice Ap k cp ∧ q = .slice Aq k cq ∧ lp.length = k ∧ lq.length = k ∧ Own intC 3 1 wr wd.heap.size (.slice Ap k cp) lp ∧ Own intC 3 1 wr wd.heap.size (.slice Aq k cq) lq ∧ apartV (.slice Ap k cp) (.slice Aq k cq) ∧ Below wd.heap.size wd wr)
  case atStart => exact ⟨0, 0, 0, none, none, [], [], by omega, by omega, by omega, rfl, rfl, rfl, rfl, rfl, rfl, Own.nil _ _ _ _ _, Own.nil _ _ _ _ _, (fun _ h => by cases h), Below.refl _ _⟩
  case round =>
    obtain ⟨k, cp, cq, Ap, Aq, lp, lq, hk9, hk4, hk5, hm, rfl, rfl, rfl, hlp, hlq, hop, hoq, hap, hbr⟩ := hrel
    have HM := Lib.hid hm
    have HLP := Lib.hid hlp
    have HLQ := Lib.hid hlq
    clear hm hlp hlq
    by_cases hlt : k < len4 ∧ k < len5 ∧ k < 9
    · obtain ⟨q4, q5, q9⟩ := hlt
      have hbw := below_trans' hb hb.size hbr
      obtain ⟨bc, offc, rfl, hbc, hcc⟩ := r4 (by omega)
      obtain ⟨bd, offd, rfl, hbd, hcd⟩ := r5 (by omega)
      have v4 := hcc k q4 0 _ rfl
      have v5 := hcd k q5 0 _ rfl
      simp only [Nat.add_zero, Nat.mul_one] at v4 v5
      have u4 := F4.out k q4
      have u5 := F5.out k q5
      clear hcc hcd
      generalize f4 k = xc at *
      generalize f5 k = xd at *
      have hrows : Rows0 wr.drew wd.heap.size [(.slice Ap k cp, lp, xc % 514), (.slice Aq k cq, lq, xd % 10002)] := ⟨fun r hr => by
          simp only [List.mem_cons, List.not_mem_nil, or_false] at hr
          rcases hr with rfl | rfl
          · exact Own.below hop ((Below.refl _ _).drew)
          · exact Own.below hoq ((Below.refl _ _).drew), fun r hr s hs => by
          simp only [List.mem_cons, List.not_mem_nil, or_false] at hr hs
          rcases hr with rfl | rfl <;> rcases hs with rfl | rfl
          · exact .inl rfl
          · exact .inr hap
          · exact .inr fun g h1 h2 => hap g h2 h1
          · exact .inl rfl, hbr.size⟩
      have hmp := PA_mono hrows (r := (.slice Ap k cp, lp, xc % 514)) (by simp)
      have hmq := PA_mono hrows (r := (.slice Aq k cq, lq, xd % 10002)) (by simp)
      have hrp := PA_run hrows (r := (.slice Ap k cp, lp, xc % 514)) (by simp) (by have := HLP.out; simp only; omega)
      have hrq := PA_run hrows (r := (.slice Aq k cq, lq, xd % 10002)) (by simp) (by have := HLQ.out; simp only; omega)
      have htr := hrows.trans
      have hlt' := hrows.lt
      have hge' := hrows.ge
      have hS : ∀ z : Beh (RW (wsOf [(.slice Ap k cp, lp, xc % 514), (.slice Aq k cq, lq, xd % 10002)])) wr.drew, wr.drew.heap.size ≤ z.w.heap.size := fun z => z.h.size
      have hzb : ∀ z : Beh (RW (wsOf [(.slice Ap k cp, lp, xc % 514), (.slice Aq k cq, lq, xd % 10002)])) wr.drew, Below wd.heap.size wd z.w := fun z => hbr.drew.trans (z.h.below hbr.size hge')
      have hzw : ∀ z : Beh (RW (wsOf [(.slice Ap k cp, lp, xc % 514), (.slice Aq k cq, lq, xd % 10002)])) wr.drew, Below w.heap.size w z.w := fun z => hb.trans ((hzb z).mono hb.size)
      have x4 : ∀ z : Beh (RW (wsOf [(.slice Ap k cp, lp, xc % 514), (.slice Aq k cq, lq, xd % 10002)])) wr.drew, z.w.cell? ⟨bc, offc + k, none⟩ = some (.int .u16 xc) := fun z => ((hzw z).cell hbc).trans v4
      have x5 : ∀ z : Beh (RW (wsOf [(.slice Ap k cp, lp, xc % 514), (.slice Aq k cq, lq, xd % 10002)])) wr.drew, z.w.cell? ⟨bd, offd + k, none⟩ = some (.int .u16 xd) := fun z => ((hzw z).cell hbd).trans v5
      generalize hSe : wr.drew.heap.size = S at *
      clear hSe hop hoq v4 v5 r1 r2 hbw
      go_wp2_with fail
      refine wp_region_pair (R := RW (wsOf [(.slice Ap k cp, lp, xc % 514), (.slice Aq k cq, lq, xd % 10002)])) (fun v u => v.ownBlock ≠ u.ownBlock) 18 137 [] [(7, [], some (freshS S #[.int .i64 (xc % 514)] 3 1), []), (8, [82], some (PA wd.heap.size S (.slice Ap k cp, lp, xc % 514)), [PA wd.heap.size S (.slice Aq k cq, lq, xd % 10002)]), (16, [], some (freshS S #[.int .i64 (xd % 10002)] 3 1), []), (17, [91], some (PA wd.heap.size S (.slice Aq k cq, lq, xd % 10002)), [PA wd.heap.size S (.slice Ap k cp, lp, xc % 514)])] [8, 17] [83, 92]
        (by kernel_rfl) (by kernel_rfl) (by kernel_rfl) (by kernel_rfl) (fun h => absurd rfl h) rfl (RW.refl _) htr (fun _ _ h => Ne.symm h) ⟨by kernel_rfl, by decide, by decide⟩ (sib2 (.tail _ (.head _)) (.tail _ (.tail _ (.tail _ (.head _))))) ?_
      simp only [LateP, List.take_succ_cons, List.drop_succ_cons, List.take_zero, List.drop_zero, Nat.reduceSub, Nat.reduceAdd, Nat.sub_zero]
      repeat (go_big_quiet_step (rfl))
      refine wpQuiet_nil ?_
      refine late_buildR (fun w => by kernel_rfl) (fun z => RW.of_le ((Below.refl _ _).alloc (Nat.le_refl _) _)) (freshS_rw hlt') hS (by simp only [Act.put, List.setIfInBounds_toArray, List.set_cons_succ, List.set_cons_zero]; rfl) ?_
      refine wpQuiet_nil ?_
      refine pair_app [] (by simp) hmp (fun _ => rfl) (fun z u hu => ?_) (by simp only [Act.put, List.setIfInBounds_toArray, List.set_cons_succ, List.set_cons_zero]; rfl) ?_
      · obtain ⟨v', w', e1, e2, e3, e4⟩ := hrp z u hu
        exact ⟨v', w', e1, e2, e3, fun ψ hψ => by rw [List.mem_singleton] at hψ; subst hψ; exact e4 _ (by simp) hap⟩
      repeat (go_big_quiet_step (rfl))
      refine wpQuiet_nil ?_
      refine late_buildR (fun w => by kernel_rfl) (fun z => RW.of_le ((Below.refl _ _).alloc (Nat.le_refl _) _)) (freshS_rw hlt') hS (by simp only [Act.put, List.setIfInBounds_toArray, List.set_cons_succ, List.set_cons_zero]; rfl) ?_
      refine wpQuiet_nil ?_
      refine pair_app [_, _] (by simp) hmq (fun _ => rfl) (fun z u hu => ?_) (by simp only [Act.put, List.setIfInBounds_toArray, List.set_cons_succ, List.set_cons_zero]; rfl) ?_
      · obtain ⟨v', w', e1, e2, e3, e4⟩ := hrq z u hu
        exact ⟨v', w', e1, e2, e3, fun ψ hψ => by rw [List.mem_singleton] at hψ; subst hψ; exact e4 _ (by simp) fun g h1 h2 => hap g h2 h1⟩
      refine wpQuiet_nil ?_
      intro z
      simp only [List.nil_append, List.cons_append, allGens, Option.getD_some]
      rintro v82 _ v83 p83 v91 _ v92 p92 hdist
      simp only [Act.put, List.setIfInBounds_toArray, List.set_cons_succ, List.set_cons_zero]
      have hd : v83.ownBlock ≠ v92.ownBlock := List.rel_of_pairwise_cons hdist (List.mem_singleton.2 rfl)
      have hbz := hzb z
      obtain ⟨o83, -, -⟩ := p83
      obtain ⟨o92, -, -⟩ := p92
      clear hdist x4 x5 hzw hzb hS hrp hrq hmp hmq htr hlt' hge' hbr hrows
      generalize z.w = w4 at *
      have e83 : (lp ++ [xc % 514]).length = k + 1 := by simp [HLP.out]
      have e92 : (lq ++ [xd % 10002]).length = k + 1 := by simp [HLQ.out]
      obtain ⟨A83, c83, rfl, -⟩ := Own.shape o83
      obtain ⟨A92, c92, rfl, -⟩ := Own.shape o92
      rw [e83] at o83 hd ⊢
      rw [e92] at o92 hd ⊢
      have E83 := Lib.hid e83
      have E92 := Lib.hid e92
      have HD := Lib.hid hd
      clear e83 e92 hd hap
      go_wp2_with fail
      go_roundg (10 - (k + 1))
      case measure => have := HM.out; omega
      case rel => exact ⟨k + 1, c83, c92, A83, A92, _, _, by omega, by omega, by omega, rfl, by go_num, rfl, rfl, E83.out, E92.out, o83, o92, fun g h1 h2 => HD.out (h1.trans h2.symm), hbz⟩
    · have hrp : RowsAt wr wr.heap.size 1 Ap k (fun i => [.int .i64 (lp.getD i 0)]) := by have := Own.rows (c := intC) intC_len 0 hop; rw [HLP.out] at this; exact this
      have hrq : RowsAt wr wr.heap.size 1 Aq k (fun i => [.int .i64 (lq.getD i 0)]) := by have := Own.rows (c := intC) intC_len 0 hoq; rw [HLQ.out] at this; exact this
      obtain ⟨fp, hfp⟩ : ∃ f : Nat → Int, (fun i => lp.getD i 0) = f := ⟨_, rfl⟩
      obtain ⟨fq, hfq⟩ : ∃ f : Nat → Int, (fun i => lq.getD i 0) = f := ⟨_, rfl⟩
      replace hrp : RowsAt wr wr.heap.size 1 Ap k fun i => [.int .i64 (fp i)] := by rw [← hfp]; exact hrp
      replace hrq : RowsAt wr wr.heap.size 1 Aq k fun i => [.int .i64 (fq i)] := by rw [← hfq]; exact hrq
      have hbw := below_trans' hb hb.size hbr
      clear hfp hfq hop hoq hap hbr r1 r2 r4 r5 HM HLP HLQ hb
      have hcase : k = len4 ∨ (k < len4 ∧ k = len5) ∨ (k < len4 ∧ k < len5 ∧ k = 9) := by omega
      clear hlt
      rcases hcase with hk | ⟨hk1, hk⟩ | ⟨hk1, hk2, hk⟩
      all_goals
        first
          | (have hn : ¬ k < len4 := by omega)
          | (have hn : ¬ k < len5 := by omega)
          | (have hn : ¬ k < 9 := by omega)
        clear hk
        go_wp2_with fail
        go_loopg [23] (k + 3) (fun m i wr2 => ∃ j : Nat, j ≤ k + 2 ∧ m = k + 3 - j ∧ i = .int .i64 j ∧ Below w.heap.size w wr2 ∧ Below wr.heap.size wr wr2)
        case atStart => exact ⟨0, by omega, by omega, rfl, hbw, Below.refl _ _⟩
        case round =>
          clear hbw
          obtain ⟨j, hj, hm, rfl, hbw, hb2⟩ := hrel
          have HM2 := Lib.hid hm
          clear hm
          by_cases hjk : j < k + 2
          · have hjt : decide ((j : Int) ≤ (k : Int) + 1) = true := by simp; omega
            have s52 := fun w' => step52 V Ap Aq k k cp cq fp fq j w' (by omega) (by omega)
            have s53 := fun w' => step53 V Ap Aq k k cp cq fp fq j w' (by omega) (by omega) hVb
            have hlen : (balC V k k fp fq j).length ≤ 1048576 := by
              have : (balC V k k fp fq j).length = k := by unfold balC; split <;> simp
              omega
            generalize balC V k k fp fq j = L2 at *
            generalize balW V k k fp fq j = W2 at *
            have S52 := Lib.hid s52
            have S53 := Lib.hid s53
            clear s52 s53
            go_wp2_with fail
            refine (S52.out _ ((hrp.below hb2 (Nat.le_refl _)).more hb2.size) ((hrq.below hb2 (Nat.le_refl _)).more hb2.size)).mono ?_
            rintro e we ⟨o1, rfl, ho1, hb3⟩
            replace hbw := below_trans' hbw hbw.size hb3
            replace hb2 := below_trans' hb2 hb2.size hb3
            obtain ⟨B1, j1, rfl, hj1, hs1⟩ := own_shape2 ho1
            clear ho1 hb3
            go_wp2_with fail
            refine (S53.out _ ((hrp.below hb2 (Nat.le_refl _)).more hb2.size) ((hrq.below hb2 (Nat.le_refl _)).more hb2.size)).mono ?_
            rintro e wf ⟨o2, rfl, ho2, hb3⟩
            obtain ⟨B2, j2, rfl, hj2, hs2⟩ := own_shape2 ho2
            replace hs1 := (hs1.below hb3 (Nat.le_refl _)).more hb3.size
            replace hbw := below_trans' hbw hbw.size hb3
            replace hb2 := below_trans' hb2 hb2.size hb3
            clear ho2 hb3
            go_wp2_with fail
            refine (same54 B1 B2 L2.length j1 j2 (fun i => L2.getD i 0) wf hlen hs1 hs2).mono ?_
            rintro e wg ⟨rfl, hb3⟩
            replace hbw := below_trans' hbw hbw.size hb3
            replace hb2 := below_trans' hb2 hb2.size hb3
            clear hb3 hs1 hs2 hj1 hj2 S52 S53 hlen
            go_wp2_with fail
            go_roundg (k + 3 - (j + 1))
            case measure => have := HM2.out; omega
            case rel => exact ⟨j + 1, by omega, rfl, by go_num, hbw, hb2⟩
          · have hjt : decide ((j : Int) ≤ (k : Int) + 1) = false := by simp; omega
            go_wp2_with fail
            go_ret
            exact ⟨rfl, hbw⟩
end Go.Proofs.Ytgonighpjpfmnaa
