/- The walk of flagstonelaw42.BalanceFair. -/
import Derived.Test.YtgonighpjpfmnaaBalanceSteps
import Derived.Test.YtgonighpjpfmnaaWealthFair

namespace Go.Proofs.Ytgonighpjpfmnaa
open Go.RowKit

theorem getD_mem' {l : List Int} {i : Nat} (h : i < l.length) : l.getD i 0 ∈ l := by
  rw [List.getD_eq_getElem?_getD, List.getElem?_eq_getElem h]
  exact List.getElem_mem h

theorem digits_cmp {T R H L N1 N2 : Int} (h1 : T * 1073741824 + R = N1) (h2 : H * 1073741824 + L = N2) (h : N1 ≤ N2) : T + R / 1073741824 < H + L / 1073741824 ∨ T + R / 1073741824 = H + L / 1073741824 ∧ R % 1073741824 ≤ L % 1073741824 := by omega

set_option maxRecDepth 100000 in
set_option maxHeartbeats 4000000 in
theorem balanceFair15 (a0 : Option Addr) (len0 cap0 : Nat) (z0 : List Int) (a1 : Option Addr) (len1 cap1 : Nat) (z1 : List Int) (a2 : Int) (a3 : Int) (w : World)
    (w0 : IsRow .u16 w a0 len0 cap0 z0) (w1 : IsRow .u16 w a1 len1 cap1 z1) (w2 : (Lit.int .i64 a2).wf = true) (w3 : (Lit.int .u8 a3).wf = true) :
    Calls Try.prog 15 #[.slice a0 len0 cap0, .slice a1 len1 cap1, .int .i64 a2, .int .u8 a3] w fun e w' => e = .returned (.bool true) ∧ Below w.heap.size w w' := by
  have b2 := bounds_i64 w2
  have b3 := bounds_u8 w3
  obtain ⟨r0, f0', l0, m0⟩ := w0.rows
  obtain ⟨r1, f1', l1, m1⟩ := w1.rows
  unfold maxLen at m0 m1
  obtain ⟨f0, hf0⟩ : ∃ f : Nat → Int, (fun i => z0.getD i 0) = f := ⟨_, rfl⟩
  obtain ⟨f1, hf1⟩ : ∃ f : Nat → Int, (fun i => z1.getD i 0) = f := ⟨_, rfl⟩
  replace r0 : RowsAt w w.heap.size 1 a0 len0 fun i => [.int .u16 (f0 i)] := by rw [← hf0]; exact r0
  replace r1 : RowsAt w w.heap.size 1 a1 len1 fun i => [.int .u16 (f1 i)] := by rw [← hf1]; exact r1
  have g0 : ∀ i, i < len0 → 0 ≤ f0 i ∧ f0 i ≤ 65535 := fun i hi => by rw [← hf0]; exact bounds_u16 (f0' i hi)
  have g1 : ∀ i, i < len1 → 0 ≤ f1 i ∧ f1 i ≤ 65535 := fun i hi => by rw [← hf1]; exact bounds_u16 (f1' i hi)
  have F0 := Lib.hid g0
  have F1 := Lib.hid g1
  clear hf0 hf1 g0 g1 f0' f1' w0 w1 w2 w3
  have c0 := half_bd a2
  obtain ⟨U0, hU0⟩ : ∃ U, IntKind.u64.wrap a2 = U := ⟨_, rfl⟩
  rw [hU0] at c0
  have d0 := div_pow_bd c0.1 (a3 % 62).toNat
  obtain ⟨X, hX⟩ : ∃ X, U0 / 2 / (2 : Int) ^ (a3 % 62).toNat = X := ⟨_, rfl⟩
  rw [hX] at d0
  obtain ⟨V, hV⟩ : ∃ V, min X 2305843009213693952 = V := ⟨_, rfl⟩
  have hVb : 0 ≤ V ∧ V ≤ 2305843009213693952 := by omega
  go_enter Try.func15, Try.ntmps15
  go_wp2_with fail
  refine (awake51 w).mono ?_
  rintro e wd ⟨rfl, hb⟩
  go_wp2_with fail
  go_loopg [11, 9, 10] 9 (fun m i p q wr => ∃ (k cp cq : Nat) (Ap Aq : Option Addr) (lp lq : List Int), k ≤ 8 ∧ k ≤ len0 ∧ k ≤ len1 ∧ m = 9 - k ∧ i = .int .i64 k ∧ p = .slice Ap k cp ∧ q = .slice Aq k cq ∧ lp.length = k ∧ lq.length = k ∧ (∀ a ∈ lp, 0 ≤ a ∧ a ≤ 512) ∧ (∀ a ∈ lq, 1 ≤ a ∧ a ≤ 10000) ∧ Own intC 3 1 wr wd.heap.size (.slice Ap k cp) lp ∧ Own intC 3 1 wr wd.heap.size (.slice Aq k cq) lq ∧ apartV (.slice Ap k cp) (.slice Aq k cq) ∧ Below wd.heap.size wd wr)
  case atStart => exact ⟨0, 0, 0, none, none, [], [], by omega, by omega, by omega, rfl, rfl, rfl, rfl, rfl, rfl, (fun _ h => by cases h), (fun _ h => by cases h), Own.nil _ _ _ _ _, Own.nil _ _ _ _ _, (fun _ h => by cases h), Below.refl _ _⟩
  case round =>
    obtain ⟨k, cp, cq, Ap, Aq, lp, lq, hk8, hk0, hk1, hm, rfl, rfl, rfl, hlp, hlq, hap1, haq1, hop, hoq, hap, hbr⟩ := hrel
    have HM := Lib.hid hm
    have HLP := Lib.hid hlp
    have HLQ := Lib.hid hlq
    have HAP := Lib.hid hap1
    have HAQ := Lib.hid haq1
    clear hm hlp hlq hap1 haq1
    by_cases hlt : k < len0 ∧ k < len1 ∧ k < 8
    · obtain ⟨q0, q1, q8⟩ := hlt
      have hbw := below_trans' hb hb.size hbr
      obtain ⟨bc, offc, rfl, hbc, hcc⟩ := r0 (by omega)
      obtain ⟨bd, offd, rfl, hbd, hcd⟩ := r1 (by omega)
      have v4 := hcc k q0 0 _ rfl
      have v5 := hcd k q1 0 _ rfl
      simp only [Nat.add_zero, Nat.mul_one] at v4 v5
      have u4 := F0.out k q0
      have u5 := F1.out k q1
      clear hcc hcd
      generalize f0 k = xc at *
      generalize f1 k = xd at *
      have hrows : Rows0 wr.drew wd.heap.size [(.slice Ap k cp, lp, xc % 513), (.slice Aq k cq, lq, 1 + xd % 10000)] := ⟨fun r hr => by
          simp only [List.mem_cons, List.not_mem_nil, or_false] at hr
          rcases hr with rfl | rfl
          · exact Own.below hop ((Below.refl _ _).drew)
          · exact Own.below hoq ((Below.refl _ _).drew), fun r hr s hs => by
          simp only [List.mem_cons, List.not_mem_nil, or_false] at hr hs
          rcases hr with rfl | rfl <;> rcases hs with rfl | rfl
          · exact .inl rfl
          · exact .inr hap
          · exact .inr fun g h1 h2 => hap g h2 h1
          · exact .inl rfl, hbr.size⟩
      have hmp := PA_mono hrows (r := (.slice Ap k cp, lp, xc % 513)) (by simp)
      have hmq := PA_mono hrows (r := (.slice Aq k cq, lq, 1 + xd % 10000)) (by simp)
      have hrp := PA_run hrows (r := (.slice Ap k cp, lp, xc % 513)) (by simp) (by have := HLP.out; simp only; omega)
      have hrq := PA_run hrows (r := (.slice Aq k cq, lq, 1 + xd % 10000)) (by simp) (by have := HLQ.out; simp only; omega)
      have htr := hrows.trans
      have hlt' := hrows.lt
      have hge' := hrows.ge
      have hS : ∀ z : Beh (RW (wsOf [(.slice Ap k cp, lp, xc % 513), (.slice Aq k cq, lq, 1 + xd % 10000)])) wr.drew, wr.drew.heap.size ≤ z.w.heap.size := fun z => z.h.size
      have hzb : ∀ z : Beh (RW (wsOf [(.slice Ap k cp, lp, xc % 513), (.slice Aq k cq, lq, 1 + xd % 10000)])) wr.drew, Below wd.heap.size wd z.w := fun z => hbr.drew.trans (z.h.below hbr.size hge')
      have hzw : ∀ z : Beh (RW (wsOf [(.slice Ap k cp, lp, xc % 513), (.slice Aq k cq, lq, 1 + xd % 10000)])) wr.drew, Below w.heap.size w z.w := fun z => hb.trans ((hzb z).mono hb.size)
      have x4 : ∀ z : Beh (RW (wsOf [(.slice Ap k cp, lp, xc % 513), (.slice Aq k cq, lq, 1 + xd % 10000)])) wr.drew, z.w.cell? ⟨bc, offc + k, none⟩ = some (.int .u16 xc) := fun z => ((hzw z).cell hbc).trans v4
      have x5 : ∀ z : Beh (RW (wsOf [(.slice Ap k cp, lp, xc % 513), (.slice Aq k cq, lq, 1 + xd % 10000)])) wr.drew, z.w.cell? ⟨bd, offd + k, none⟩ = some (.int .u16 xd) := fun z => ((hzw z).cell hbd).trans v5
      generalize hSe : wr.drew.heap.size = S at *
      clear hSe hop hoq v4 v5 hbw
      go_wp2_with fail
      refine wp_region_pair (R := RW (wsOf [(.slice Ap k cp, lp, xc % 513), (.slice Aq k cq, lq, 1 + xd % 10000)])) (fun v u => v.ownBlock ≠ u.ownBlock) 19 158 [] [(7, [], some (freshS S #[.int .i64 (xc % 513)] 3 1), []), (8, [45], some (PA wd.heap.size S (.slice Ap k cp, lp, xc % 513)), [PA wd.heap.size S (.slice Aq k cq, lq, 1 + xd % 10000)]), (17, [], some (freshS S #[.int .i64 (1 + xd % 10000)] 3 1), []), (18, [55], some (PA wd.heap.size S (.slice Aq k cq, lq, 1 + xd % 10000)), [PA wd.heap.size S (.slice Ap k cp, lp, xc % 513)])] [8, 18] [46, 56]
        (by kernel_rfl) (by kernel_rfl) (by kernel_rfl) (by kernel_rfl) (fun h => absurd rfl h) rfl (RW.refl _) htr (fun _ _ h => Ne.symm h) ⟨by kernel_rfl, by decide, by decide⟩ (sib2 (.tail _ (.head _)) (.tail _ (.tail _ (.tail _ (.head _))))) ?_
      simp only [LateP, List.take_succ_cons, List.drop_succ_cons, List.take_zero, List.drop_zero, Nat.reduceSub, Nat.reduceAdd, Nat.sub_zero]
      repeat (go_big_quiet_step (rfl))
      refine wpQuiet_nil ?_
      refine late_buildR (fun w => by kernel_rfl) (fun z => RW.of_le ((Below.refl _ _).alloc (Nat.le_refl _) _)) (freshS_rw hlt') hS (by simp only [Act.put, List.setIfInBounds_toArray, List.set_cons_succ, List.set_cons_zero]; rfl) ?_
      refine wpQuiet_nil ?_
      refine pair_app [] (by simp) hmp (fun _ => rfl) (fun z u hu => ?_) (by simp only [Act.put, List.setIfInBounds_toArray, List.set_cons_succ, List.set_cons_zero]; rfl) ?_
      · obtain ⟨v', w', e1, e2, e3, e4⟩ := hrp z u hu
        exact ⟨v', w', e1, e2, e3, fun ψ hψ => by rw [List.mem_singleton] at hψ; subst hψ; exact e4 _ (by simp) hap⟩
      repeat (go_big_quiet_step (rfl))
      refine wpQuiet_nil ?_
      refine late_buildR (fun w => by kernel_rfl) (fun z => RW.of_le ((Below.refl _ _).alloc (Nat.le_refl _) _)) (freshS_rw hlt') hS (by simp only [Act.put, List.setIfInBounds_toArray, List.set_cons_succ, List.set_cons_zero]; rfl) ?_
      refine wpQuiet_nil ?_
      refine pair_app [_, _] (by simp) hmq (fun _ => rfl) (fun z u hu => ?_) (by simp only [Act.put, List.setIfInBounds_toArray, List.set_cons_succ, List.set_cons_zero]; rfl) ?_
      · obtain ⟨v', w', e1, e2, e3, e4⟩ := hrq z u hu
        exact ⟨v', w', e1, e2, e3, fun ψ hψ => by rw [List.mem_singleton] at hψ; subst hψ; exact e4 _ (by simp) fun g h1 h2 => hap g h2 h1⟩
      refine wpQuiet_nil ?_
      intro z
      simp only [List.nil_append, List.cons_append, allGens, Option.getD_some]
      rintro v82 _ v83 p83 v91 _ v92 p92 hdist
      simp only [Act.put, List.setIfInBounds_toArray, List.set_cons_succ, List.set_cons_zero]
      have hd : v83.ownBlock ≠ v92.ownBlock := List.rel_of_pairwise_cons hdist (List.mem_singleton.2 rfl)
      have hbz := hzb z
      obtain ⟨o83, -, -⟩ := p83
      obtain ⟨o92, -, -⟩ := p92
      clear hdist x4 x5 hzw hzb hS hrp hrq hmp hmq htr hlt' hge' hbr hrows
      generalize z.w = w4 at *
      have e83 : (lp ++ [xc % 513]).length = k + 1 := by simp [HLP.out]
      have e92 : (lq ++ [1 + xd % 10000]).length = k + 1 := by simp [HLQ.out]
      obtain ⟨A83, c83, rfl, -⟩ := Own.shape o83
      obtain ⟨A92, c92, rfl, -⟩ := Own.shape o92
      rw [e83] at o83 hd ⊢
      rw [e92] at o92 hd ⊢
      have E83 := Lib.hid e83
      have E92 := Lib.hid e92
      have HD := Lib.hid hd
      clear e83 e92 hd hap
      go_wp2_with fail
      go_roundg (9 - (k + 1))
      case measure => have := HM.out; omega
      case rel => exact ⟨k + 1, c83, c92, A83, A92, _, _, by omega, by omega, by omega, rfl, by go_num, rfl, rfl, E83.out, E92.out, (fun a ha => by rw [List.mem_append, List.mem_singleton] at ha; rcases ha with ha | rfl; exact HAP.out a ha; omega), (fun a ha => by rw [List.mem_append, List.mem_singleton] at ha; rcases ha with ha | rfl; exact HAQ.out a ha; omega), o83, o92, fun g h1 h2 => HD.out (h1.trans h2.symm), hbz⟩
    · have hrp : RowsAt wr wr.heap.size 1 Ap k (fun i => [.int .i64 (lp.getD i 0)]) := by have := Own.rows (c := intC) intC_len 0 hop; rw [HLP.out] at this; exact this
      have hrq : RowsAt wr wr.heap.size 1 Aq k (fun i => [.int .i64 (lq.getD i 0)]) := by have := Own.rows (c := intC) intC_len 0 hoq; rw [HLQ.out] at this; exact this
      have hfb : ∀ i, i < k → 0 ≤ lp.getD i 0 ∧ lp.getD i 0 ≤ 512 ∧ 1 ≤ lq.getD i 0 ∧ lq.getD i 0 ≤ 10000 := fun i hi => by
        have h1 := HAP.out _ (getD_mem' (l := lp) (i := i) (by rw [HLP.out]; exact hi))
        have h2 := HAQ.out _ (getD_mem' (l := lq) (i := i) (by rw [HLQ.out]; exact hi))
        omega
      obtain ⟨fp, hfp⟩ : ∃ f : Nat → Int, (fun i => lp.getD i 0) = f := ⟨_, rfl⟩
      obtain ⟨fq, hfq⟩ : ∃ f : Nat → Int, (fun i => lq.getD i 0) = f := ⟨_, rfl⟩
      replace hrp : RowsAt wr wr.heap.size 1 Ap k fun i => [.int .i64 (fp i)] := by rw [← hfp]; exact hrp
      replace hrq : RowsAt wr wr.heap.size 1 Aq k fun i => [.int .i64 (fq i)] := by rw [← hfq]; exact hrq
      replace hfb : ∀ i, i < k → 0 ≤ fp i ∧ fp i ≤ 512 ∧ 1 ≤ fq i ∧ fq i ≤ 10000 := by rw [← hfp, ← hfq]; exact hfb
      have hok : okC fp fq k = true := okC_iff.2 hfb
      have hsum := sumI_bd (f := fp) (n := k) (a := 0) (b := 512) fun i hi => ⟨(hfb i hi).1, (hfb i hi).2.1⟩
      have hsumq := sumI_bd (f := fq) (n := k) (a := 1) (b := 10000) fun i hi => ⟨(hfb i hi).2.2.1, (hfb i hi).2.2.2⟩
      have hfair : balT V fp fq (sumI fq k) (sumI fp k + k) k ≤ sumI fq k * V := by
        by_cases hk : k = 0
        · subst hk; simp [balT, sumI]
        · have s1 := hsum k (Nat.le_refl _)
          have s2 := hsumq k (Nat.le_refl _)
          exact bal_fair hVb.1 (by omega) (by omega) (fun i hi => ⟨(hfb i hi).1, (hfb i hi).2.2.1⟩) rfl
      have hbw := below_trans' hb hb.size hbr
      have FB := Lib.hid hfb
      have OK := Lib.hid hok
      have SQ := Lib.hid hsumq
      have FAIR := Lib.hid hfair
      clear hfp hfq hop hoq hap hbr r0 r1 HM HLP HLQ HAP HAQ F0 F1 hb hfb hok hsum hsumq hfair
      have hcase : k = len0 ∨ (k < len0 ∧ k = len1) ∨ (k < len0 ∧ k < len1 ∧ k = 8) := by omega
      clear hlt
      rcases hcase with hk | ⟨hk1, hk⟩ | ⟨hk1, hk2, hk⟩
      all_goals
        first
          | (have hn : ¬ k < len0 := by omega)
          | (have hn : ¬ k < len1 := by omega)
          | (have hn : ¬ k < 8 := by omega)
        clear hk
        go_wp2_with fail
        go_loopg [17, 13, 14, 15, 16] k (fun m i s13 s14 s15 s16 wr2 => ∃ (j : Nat) (H L T R : Int), j ≤ k ∧ m = k - j ∧ i = .int .i64 j ∧ s13 = .int .i64 H ∧ s14 = .int .i64 L ∧ s15 = .int .i64 T ∧ s16 = .int .i64 R ∧
          0 ≤ H ∧ H ≤ 21474836480000 * j ∧ 0 ≤ L ∧ L ≤ 10737418240000 * j ∧ 0 ≤ T ∧ T ≤ 21474836480000 * j ∧ 0 ≤ R ∧ R ≤ 10737418240000 * j ∧
          H * 1073741824 + L = sumI fq j * V ∧ T * 1073741824 + R = balT V fp fq (sumI fq k) (sumI fp k + k) j ∧ Below w.heap.size w wr2 ∧ Below wr.heap.size wr wr2)
        case atStart => exact ⟨0, 0, 0, 0, 0, by omega, by omega, rfl, rfl, rfl, rfl, rfl, by omega, by omega, by omega, by omega, by omega, by omega, by omega, by omega, by simp [sumI], by simp [balT], hbw, Below.refl _ _⟩
        case round =>
          clear hbw
          obtain ⟨j, H, L, T, R, hj, hm, rfl, rfl, rfl, rfl, rfl, i1, i2, i3, i4, i5, i6, i7, i8, hHL, hTR, hbw, hb2⟩ := hrel
          have HM2 := Lib.hid hm
          have HHL := Lib.hid hHL
          have HTR := Lib.hid hTR
          clear hm hHL hTR
          by_cases hjk : j < k
          · have hokB : okB V k k fp fq ((j : Int) + 1) = true := by rw [okB_ok ⟨hVb.1, hVb.2, rfl, by omega, by omega, by omega, by omega⟩]; exact OK.out
            have s52 := fun w' => step52 V Ap Aq k k cp cq fp fq ((j : Int) + 1) w' (by omega) (by omega)
            have e1 : balW V k k fp fq ((j : Int) + 1) = growI V ((fp j + 1) * sumI fq k) ((sumI fp k + k) * fq j) := by rw [balW, if_pos hokB, show ((j : Int) + 1 - 1).toNat = j by omega]
            have e2 : balC V k k fp fq ((j : Int) + 1) = ((List.range k).map fp).set j (fp j + 1) := by rw [balC, if_pos hokB, show ((j : Int) + 1 - 1).toNat = j by omega]
            have hL2 : (balC V k k fp fq ((j : Int) + 1)).length = k := by rw [e2]; simp
            have hgt : (balC V k k fp fq ((j : Int) + 1)).getD j 0 = fp j + 1 := by rw [e2, List.getD_eq_getElem?_getD, List.getElem?_set_self (by simp; exact hjk)]; rfl
            rw [e1] at s52
            have G1 := growI_nonneg V ((fp j + 1) * sumI fq k) ((sumI fp k + k) * fq j)
            have G2 := growI_le V ((fp j + 1) * sumI fq k) ((sumI fp k + k) * fq j)
            have eT : balT V fp fq (sumI fq k) (sumI fp k + k) (j + 1) = balT V fp fq (sumI fq k) (sumI fp k + k) j + fq j * growI V ((fp j + 1) * sumI fq k) ((sumI fp k + k) * fq j) := rfl
            have eS : sumI fq (j + 1) = sumI fq j + fq j := rfl
            generalize growI V ((fp j + 1) * sumI fq k) ((sumI fp k + k) * fq j) = G at *
            generalize balC V k k fp fq ((j : Int) + 1) = L2 at *
            have S52 := Lib.hid s52
            have ET := Lib.hid eT
            have ES := Lib.hid eS
            have HGT := Lib.hid hgt
            have HL2 := Lib.hid hL2
            clear s52 e1 e2 hokB eT eS hgt hL2
            go_wp2_with fail
            refine (S52.out _ ((hrp.below hb2 (Nat.le_refl _)).more hb2.size) ((hrq.below hb2 (Nat.le_refl _)).more hb2.size)).mono ?_
            rintro e we ⟨o1, rfl, ho1, hb3⟩
            replace hbw := below_trans' hbw hbw.size hb3
            replace hb2 := below_trans' hb2 hb2.size hb3
            obtain ⟨B1, j1, rfl, hj1, hs1⟩ := own_shape2 ho1
            rw [HL2.out] at hj1 hs1 ⊢
            clear ho1 hb3
            obtain ⟨bn, offn, rfl, _, hcn⟩ := hs1 (by omega)
            obtain ⟨bp, offp, rfl, _, hcp⟩ := (hrp.below hb2 (Nat.le_refl _)) (by omega)
            obtain ⟨bq, offq, rfl, _, hcq⟩ := (hrq.below hb2 (Nat.le_refl _)) (by omega)
            have vn := hcn j hjk 0 _ rfl
            have vp := hcp j hjk 0 _ rfl
            have vq := hcq j hjk 0 _ rfl
            simp only [Nat.add_zero, Nat.mul_one] at vn vp vq
            rw [HGT.out] at vn
            obtain ⟨p1, p2, p3, p4⟩ := FB.out j hjk
            clear hcn hcp hcq hs1 HGT HL2 S52
            generalize fp j = x at *
            generalize fq j = y at *
            have a30 := and30 G (by omega) (by omega)
            have b30 := and30 V (by omega) (by omega)
            have m1 := mul_le4 (a := G / 1073741824) (b := y) (A := 2147483648) (B := 10000) (by omega) (by omega) (by omega) (by omega) (by omega)
            have m2 := mul_le4 (a := G % 1073741824) (b := y) (A := 1073741824) (B := 10000) (by omega) (by omega) (by omega) (by omega) (by omega)
            have m3 := mul_le4 (a := V / 1073741824) (b := y) (A := 2147483648) (B := 10000) (by omega) (by omega) (by omega) (by omega) (by omega)
            have m4 := mul_le4 (a := V % 1073741824) (b := y) (A := 1073741824) (B := 10000) (by omega) (by omega) (by omega) (by omega) (by omega)
            have n1 : 0 ≤ y * (G / 1073741824) := Int.mul_nonneg (by omega) (by omega)
            have n2 : 0 ≤ y * (G % 1073741824) := Int.mul_nonneg (by omega) (by omega)
            have n3 : 0 ≤ y * (V / 1073741824) := Int.mul_nonneg (by omega) (by omega)
            have n4 : 0 ≤ y * (V % 1073741824) := Int.mul_nonneg (by omega) (by omega)
            have o1 : IntKind.i64.wrap (y * (G / 1073741824)) = y * (G / 1073741824) := IntWalk.i64_in _ (by omega)
            have o2 : IntKind.i64.wrap (y * (G % 1073741824)) = y * (G % 1073741824) := IntWalk.i64_in _ (by omega)
            have o3 : IntKind.i64.wrap (y * (V / 1073741824)) = y * (V / 1073741824) := IntWalk.i64_in _ (by omega)
            have o4 : IntKind.i64.wrap (y * (V % 1073741824)) = y * (V % 1073741824) := IntWalk.i64_in _ (by omega)
            have q1 : H * 1073741824 + L + y * V = (H + y * (V / 1073741824)) * 1073741824 + (L + y * (V % 1073741824)) := by have := digits_mul y V; rw [Int.add_mul]; omega
            have q2 : T * 1073741824 + R + y * G = (T + y * (G / 1073741824)) * 1073741824 + (R + y * (G % 1073741824)) := by have := digits_mul y G; rw [Int.add_mul]; omega
            have Q1 := Lib.hid q1
            have Q2 := Lib.hid q2
            clear q1 q2
            go_wp2_with fail
            go_quiet (fail)
            go_wp2_with fail
            go_quiet (fail)
            go_wp2_with fail
            go_quiet (fail)
            go_wp2_with fail
            go_roundg (k - (j + 1))
            case measure => have := HM2.out; omega
            case rel => exact ⟨j + 1, H + y * (V / 1073741824), L + y * (V % 1073741824), T + y * (G / 1073741824), R + y * (G % 1073741824), by omega, rfl, by go_num, rfl, rfl, rfl, rfl, by omega, by omega, by omega, by omega, by omega, by omega, by omega, by omega, by rw [← Q1.out, HHL.out, ES.out, Int.add_mul], by rw [← Q2.out, HTR.out, ET.out], below_drewN hbw _, below_drewN hb2 _⟩
          · obtain rfl : j = k := by omega
            have hc := digits_cmp HTR.out HHL.out FAIR.out
            have a30 := and30 R (by omega) (by omega)
            have b30 := and30 L (by omega) (by omega)
            rcases hc with hc | ⟨hc, hc2⟩
            · go_wp2_with fail
              go_ret
              exact ⟨rfl, hbw⟩
            · have hc3 : ¬ T + R / 1073741824 < H + L / 1073741824 := by omega
              have hc4 : ((T + R / 1073741824) == (H + L / 1073741824)) = true := by simp [hc]
              clear hc
              go_wp2_with fail
              go_ret
              exact ⟨rfl, hbw⟩
end Go.Proofs.Ytgonighpjpfmnaa
