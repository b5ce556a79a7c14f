/- The walk of EstimateShifts. -/
import Derived.Test.YtpligjkbnlfhgaaDoorEstimateCovariances
import Derived.Test.YtpligjkbnlfhgaaDoorRow
namespace Go.Proofs.YtpligjkbnlfhgaaDoor
open Go.RowKit

theorem var_shift {f : Nat → Int} {n : Nat} (c : Int) : varQ (fun i => f i + c) n = varQ f n := by unfold varQ; rw [cov_shift]
theorem of36_no (A : Option Addr) (n c : Nat) (f : Nat → Int) (w : World) (hl : IntsV w A n c f) (hbad : ¬ (2 ≤ n ∧ Fit f n)) :
    Calls Tryd.prog 36 #[.slice A n c] w fun e w' => ∃ Z X Y U V, e = .returned (.tuple #[estV Z X Y U V, .bool false]) ∧ Below w.heap.size w w' :=
  (of36_bad A n c f w hl hbad).mono fun _ _ ⟨h1, h2⟩ => ⟨_, _, _, _, _, h1, h2⟩
theorem apartV.symm {v u : Value} (h : apartV v u) : apartV u v := fun g h1 h2 => h g h2 h1
theorem shi_mod (x : Int) : -999 ≤ x.tmod 1000 ∧ x.tmod 1000 ≤ 999 := by have := tmod_i64 x 1000 (by decide); omega
theorem shi_mul {x k : Int} (h : -128 ≤ k ∧ k ≤ 127) : -127872 ≤ x.tmod 1000 * k ∧ x.tmod 1000 * k ≤ 127872 := by
  have := mulI_bd (a := 999) (b := 128) (by decide) (by have := shi_mod x; omega) (show -128 ≤ k ∧ k ≤ 128 by omega)
  omega

set_option maxRecDepth 100000 in
set_option maxHeartbeats 16000000 in
theorem estimateShifts10 (a0 : Option Addr) (len0 cap0 : Nat) (z0 : List Int) (a1 a2 : Int) (w : World) (w0 : IsRow .i16 w a0 len0 cap0 z0) (w1 : (Lit.int .i16 a1).wf = true) (w2 : (Lit.int .i8 a2).wf = true) :
    Calls Tryd.prog 10 #[.slice a0 len0 cap0, .int .i16 a1, .int .i8 a2] w fun e w' => e = .returned (.bool true) ∧ Below w.heap.size w w' := by
  have hc := bounds_i16 w1
  have hk := bounds_i8 w2
  obtain ⟨i0, hi, hz0, hz1, hz2⟩ := info_parts info3n
  obtain ⟨hr, hf, hl, hlm⟩ := w0.rd
  obtain ⟨f, hfe⟩ : ∃ f : Nat → Int, (fun i => z0.getD i 0) = f := ⟨_, rfl⟩
  rw [hfe] at hr
  have hfb : ∀ i, i < len0 → -32768 ≤ f i ∧ f i ≤ 32767 := fun i hi => by have := bounds_i16 (hf i hi); rw [← hfe]; exact this
  obtain ⟨n, hn⟩ : ∃ n, min len0 50 = n := ⟨_, rfl⟩
  have hn50 : n ≤ 50 := by omega
  have hfn : ∀ i, i < n → -32768 ≤ f i ∧ f i ≤ 32767 := fun i hi => hfb i (by omega)
  have HN := Lib.hid hn
  have HF := Lib.hid hfb
  have HFN := Lib.hid hfn
  have HR := Lib.hid hr
  unfold maxLen at hlm
  clear hf hfe w0 w1 w2 hn hfb hfn hr
  go_enter Tryd.func10, Tryd.ntmps10
  go_wp2_with fail
  refine (awake35 w).mono ?_
  rintro e u0 ⟨rfl, hb0⟩
  go_wp2_with fail
  go_loopg [7, 8, 9, 10] (n + 1) (fun m p q r i wr => ∃ (k c1 c2 c3 : Nat) (A1 A2 A3 : Option Addr) (l1 l2 l3 : List Int), k ≤ n ∧ m = n + 1 - k ∧ i = .int .i64 k ∧ p = .slice A1 k c1 ∧ q = .slice A2 k c2 ∧ r = .slice A3 k c3 ∧ l1.length = k ∧ l2.length = k ∧ l3.length = k ∧ Hid ((∀ i, i < k → l1.getD i 0 = f i) ∧ (∀ i, i < k → l2.getD i 0 = f i + a1) ∧ (∀ i, i < k → l3.getD i 0 = (f i).tmod 1000 * a2)) ∧ Own intC 3 1 wr w.heap.size (.slice A1 k c1) l1 ∧ Own intC 3 1 wr w.heap.size (.slice A2 k c2) l2 ∧ Own intC 3 1 wr w.heap.size (.slice A3 k c3) l3 ∧ Hid (apartV (.slice A1 k c1) (.slice A2 k c2) ∧ apartV (.slice A1 k c1) (.slice A3 k c3) ∧ apartV (.slice A2 k c2) (.slice A3 k c3)) ∧ Below w.heap.size w wr)
  case atStart => exact ⟨0, 0, 0, 0, none, none, none, [], [], [], by omega, rfl, rfl, rfl, rfl, rfl, rfl, rfl, rfl, Lib.hid ⟨fun i h => absurd h (by omega), fun i h => absurd h (by omega), fun i h => absurd h (by omega)⟩, Own.nil _ _ _ _ _, Own.nil _ _ _ _ _, Own.nil _ _ _ _ _, Lib.hid ⟨(fun _ h => by cases h), (fun _ h => by cases h), (fun _ h => by cases h)⟩, hb0⟩
  case round =>
  clear hb0
  obtain ⟨k, c1, c2, c3, A1, A2, A3, l1, l2, l3, hk', hm, rfl, rfl, rfl, rfl, hl1, hl2, hl3, hgood, ho1, ho2, ho3, hap, hbr⟩ := hrel
  have HM := Lib.hid hm
  have HL1 := Lib.hid hl1
  have HL2 := Lib.hid hl2
  have HL3 := Lib.hid hl3
  clear hm hl1 hl2 hl3
  have hnn := HN.out
  by_cases hlt : k < len0 ∧ k < 50
  · obtain ⟨hlt1, hlt2⟩ := hlt
    have hltI : (k : Int) < len0 := by omega
    have hltI2 : (k : Int) < 50 := by omega
    obtain ⟨b, off, rfl, hb0, hcc⟩ := HR.out (by omega)
    have v4 := hcc k hlt1
    have u4 := HF.out k hlt1
    obtain ⟨x, hx⟩ : ∃ x, f k = x := ⟨_, rfl⟩
    have HX := Lib.hid hx
    rw [hx] at v4 u4
    obtain ⟨y, hy⟩ : ∃ y, x + a1 = y := ⟨_, rfl⟩
    have hm1 := shi_mod x
    have hm2 := shi_mul (x := x) hk
    obtain ⟨z, hz⟩ : ∃ z, x.tmod 1000 * a2 = z := ⟨_, rfl⟩
    have HZ := Lib.hid hz
    have HY := Lib.hid hy
    rw [hz] at hm2
    clear hcc hx
    have hrows : Rows0 wr.drew w.heap.size [(.slice A1 k c1, l1, x), (.slice A2 k c2, l2, y), (.slice A3 k c3, l3, z)] := ⟨fun r hr => by
        simp only [List.mem_cons, List.not_mem_nil, or_false] at hr
        rcases hr with rfl | rfl | rfl
        · exact Own.below ho1 ((Below.refl _ _).drew)
        · exact Own.below ho2 ((Below.refl _ _).drew)
        · exact Own.below ho3 ((Below.refl _ _).drew), fun r hr s hs => by
        simp only [List.mem_cons, List.not_mem_nil, or_false] at hr hs
        rcases hr with rfl | rfl | rfl <;> rcases hs with rfl | rfl | rfl
        · exact .inl rfl
        · exact .inr hap.out.1
        · exact .inr hap.out.2.1
        · exact .inr hap.out.1.symm
        · exact .inl rfl
        · exact .inr hap.out.2.2
        · exact .inr hap.out.2.1.symm
        · exact .inr hap.out.2.2.symm
        · exact .inl rfl, hbr.size⟩
    have hm1' := PA_mono hrows (r := (.slice A1 k c1, l1, x)) (by simp)
    have hr1' := PA_run hrows (r := (.slice A1 k c1, l1, x)) (by simp) (by have := HL1.out; simp only; omega)
    have hm2' := PA_mono hrows (r := (.slice A2 k c2, l2, y)) (by simp)
    have hr2' := PA_run hrows (r := (.slice A2 k c2, l2, y)) (by simp) (by have := HL2.out; simp only; omega)
    have hm3' := PA_mono hrows (r := (.slice A3 k c3, l3, z)) (by simp)
    have hr3' := PA_run hrows (r := (.slice A3 k c3, l3, z)) (by simp) (by have := HL3.out; simp only; omega)
    have htr := hrows.trans
    have hlt' := hrows.lt
    have hge' := hrows.ge
    have hS : ∀ z : Beh (RW (wsOf [(.slice A1 k c1, l1, x), (.slice A2 k c2, l2, y), (.slice A3 k c3, l3, z)])) wr.drew, wr.drew.heap.size ≤ z.w.heap.size := fun z => z.h.size
    have hzb : ∀ z : Beh (RW (wsOf [(.slice A1 k c1, l1, x), (.slice A2 k c2, l2, y), (.slice A3 k c3, l3, z)])) wr.drew, Below w.heap.size w z.w := fun z => hbr.drew.trans (z.h.below hbr.size hge')
    have x4 : ∀ z : Beh (RW (wsOf [(.slice A1 k c1, l1, x), (.slice A2 k c2, l2, y), (.slice A3 k c3, l3, z)])) wr.drew, z.w.cell? ⟨b, off + k, none⟩ = some (.int .i16 x) := fun z => ((hzb z).cell hb0).trans v4
    generalize hSe : wr.drew.heap.size = S at *
    clear hSe ho1 ho2 ho3 v4
    go_wp2_with fail
    refine wp_region_pair (R := RW (wsOf [(.slice A1 k c1, l1, x), (.slice A2 k c2, l2, y), (.slice A3 k c3, l3, z)])) (fun v u => v.ownBlock ≠ u.ownBlock) 31 179 [] [(6, [], some (freshS S #[.int .i64 x] 3 1), []), (7, [45], some (PA w.heap.size S (.slice A1 k c1, l1, x)), [PA w.heap.size S (.slice A2 k c2, l2, y), PA w.heap.size S (.slice A3 k c3, l3, z)]), (17, [], some (freshS S #[.int .i64 y] 3 1), []), (18, [56], some (PA w.heap.size S (.slice A2 k c2, l2, y)), [PA w.heap.size S (.slice A1 k c1, l1, x), PA w.heap.size S (.slice A3 k c3, l3, z)]), (29, [], some (freshS S #[.int .i64 z] 3 1), []), (30, [68], some (PA w.heap.size S (.slice A3 k c3, l3, z)), [PA w.heap.size S (.slice A1 k c1, l1, x), PA w.heap.size S (.slice A2 k c2, l2, y)])] [7, 18, 30] [46, 57, 69]
      (by kernel_rfl) (by kernel_rfl) (by kernel_rfl) (by kernel_rfl) (fun h => absurd rfl h) rfl (RW.refl _) htr (fun _ _ h => Ne.symm h) ⟨by kernel_rfl, by decide, by decide⟩ (sib3 (.tail _ (.head _)) (.tail _ (.tail _ (.tail _ (.head _)))) (.tail _ (.tail _ (.tail _ (.tail _ (.tail _ (.head _))))))) ?_
    simp only [LateP, List.take_succ_cons, List.drop_succ_cons, List.take_zero, List.drop_zero, Nat.reduceSub, Nat.reduceAdd, Nat.sub_zero]
    repeat (go_big_quiet_step (rfl))
    refine wpQuiet_nil ?_
    refine late_buildR (fun w => by kernel_rfl) (fun z => RW.of_le ((Below.refl _ _).alloc (Nat.le_refl _) _)) (freshS_rw hlt') hS (by simp only [Act.put, List.setIfInBounds_toArray, List.set_cons_succ, List.set_cons_zero]; rfl) ?_
    refine wpQuiet_nil ?_
    refine pair_app [] (by simp) hm1' (fun _ => rfl) (fun z u hu => ?_) (by simp only [Act.put, List.setIfInBounds_toArray, List.set_cons_succ, List.set_cons_zero]; rfl) ?_
    · obtain ⟨v', w', e1, e2, e3, e4⟩ := hr1' z u hu
      exact ⟨v', w', e1, e2, e3, fun ψ hψ => by
        simp only [List.mem_cons, List.not_mem_nil, or_false] at hψ
        rcases hψ with rfl | rfl
        · exact e4 _ (by simp) hap.out.1
        · exact e4 _ (by simp) hap.out.2.1⟩
    repeat (go_big_quiet_step (rfl))
    refine wpQuiet_nil ?_
    refine late_buildR (fun w => by kernel_rfl) (fun z => RW.of_le ((Below.refl _ _).alloc (Nat.le_refl _) _)) (freshS_rw hlt') hS (by simp only [Act.put, List.setIfInBounds_toArray, List.set_cons_succ, List.set_cons_zero]; rfl) ?_
    refine wpQuiet_nil ?_
    refine pair_app [_, _] (by simp) hm2' (fun _ => rfl) (fun z u hu => ?_) (by simp only [Act.put, List.setIfInBounds_toArray, List.set_cons_succ, List.set_cons_zero]; rfl) ?_
    · obtain ⟨v', w', e1, e2, e3, e4⟩ := hr2' z u hu
      exact ⟨v', w', e1, e2, e3, fun ψ hψ => by
        simp only [List.mem_cons, List.not_mem_nil, or_false] at hψ
        rcases hψ with rfl | rfl
        · exact e4 _ (by simp) hap.out.1.symm
        · exact e4 _ (by simp) hap.out.2.2⟩
    repeat (go_big_quiet_step (rfl))
    refine wpQuiet_nil ?_
    refine late_buildR (fun w => by kernel_rfl) (fun z => RW.of_le ((Below.refl _ _).alloc (Nat.le_refl _) _)) (freshS_rw hlt') hS (by simp only [Act.put, List.setIfInBounds_toArray, List.set_cons_succ, List.set_cons_zero]; rfl) ?_
    refine wpQuiet_nil ?_
    refine pair_app [_, _, _, _] (by simp) hm3' (fun _ => rfl) (fun z u hu => ?_) (by simp only [Act.put, List.setIfInBounds_toArray, List.set_cons_succ, List.set_cons_zero]; rfl) ?_
    · obtain ⟨v', w', e1, e2, e3, e4⟩ := hr3' z u hu
      exact ⟨v', w', e1, e2, e3, fun ψ hψ => by
        simp only [List.mem_cons, List.not_mem_nil, or_false] at hψ
        rcases hψ with rfl | rfl
        · exact e4 _ (by simp) hap.out.2.1.symm
        · exact e4 _ (by simp) hap.out.2.2.symm⟩
    refine wpQuiet_nil ?_
    intro zz
    simp only [List.nil_append, List.cons_append, allGens, Option.getD_some]
    rintro v45 _ v46 p46 v56 _ v57 p57 v68 _ v69 p69 hdist
    simp only [Act.put, List.setIfInBounds_toArray, List.set_cons_succ, List.set_cons_zero]
    simp only [Act.put, List.setIfInBounds_toArray, List.set_cons_succ, List.set_cons_zero, List.pairwise_cons, List.mem_cons, List.not_mem_nil, or_false, forall_eq_or_imp, forall_eq, List.Pairwise.nil, and_true, false_implies, implies_true] at hdist
    have hd12 : v46.ownBlock ≠ v57.ownBlock := hdist.1.1
    have hd13 : v46.ownBlock ≠ v69.ownBlock := hdist.1.2
    have hd23 : v57.ownBlock ≠ v69.ownBlock := hdist.2
    have hbz := hzb zz
    obtain ⟨o1, -, -⟩ := p46
    obtain ⟨o2, -, -⟩ := p57
    obtain ⟨o3, -, -⟩ := p69
    clear hdist x4 hzb hS hr1' hr2' hr3' hm1' hm2' hm3' htr hlt' hge' hbr hrows
    generalize zz.w = w4 at *
    have e1 : (l1 ++ [x]).length = k + 1 := by simp [HL1.out]
    have e2 : (l2 ++ [y]).length = k + 1 := by simp [HL2.out]
    have e3 : (l3 ++ [z]).length = k + 1 := by simp [HL3.out]
    obtain ⟨B1, d1, rfl, -⟩ := Own.shape o1
    obtain ⟨B2, d2, rfl, -⟩ := Own.shape o2
    obtain ⟨B3, d3, rfl, -⟩ := Own.shape o3
    rw [e1] at o1 hd12 hd13 ⊢
    rw [e2] at o2 hd12 hd23 ⊢
    rw [e3] at o3 hd13 hd23 ⊢
    have E1 := Lib.hid e1
    have E2 := Lib.hid e2
    have E3 := Lib.hid e3
    have HD := Lib.hid (⟨hd12, hd13, hd23⟩ : _ ∧ _ ∧ _)
    clear e1 e2 e3 hd12 hd13 hd23 hap hy hz
    go_wp2_with fail
    go_roundg (n + 1 - (k + 1))
    case measure => have := HM.out; omega
    case rel =>
      refine ⟨k + 1, d1, d2, d3, B1, B2, B3, _, _, _, by omega, rfl, by go_num, rfl, rfl, rfl, E1.out, E2.out, E3.out, Lib.hid ⟨?_, ?_, ?_⟩, o1, o2, o3, Lib.hid ⟨fun g h1 h2 => HD.out.1 (h1.trans h2.symm), fun g h1 h2 => HD.out.2.1 (h1.trans h2.symm), fun g h1 h2 => HD.out.2.2 (h1.trans h2.symm)⟩, hbz⟩
      · have h1 := HL1.out; have h2 := hgood.out.1; rw [← h1] at h2 ⊢; exact getD_snoc h2 (by rw [h1, HX.out])
      · have h1 := HL2.out; have h2 := hgood.out.2.1; rw [← h1] at h2 ⊢; exact getD_snoc h2 (by rw [h1, HX.out, HY.out])
      · have h1 := HL3.out; have h2 := hgood.out.2.2; rw [← h1] at h2 ⊢; exact getD_snoc h2 (by rw [h1, HX.out, HZ.out])
  · have hkn : k = n := by omega
    subst hkn
    have K1 : OwnF wr w.heap.size (.slice A1 k c1) k f := ⟨l1, HL1.out, hgood.out.1, ho1⟩
    have K2 : OwnF wr w.heap.size (.slice A2 k c2) k (fun i => f i + a1) := ⟨l2, HL2.out, hgood.out.2.1, ho2⟩
    have K3 : OwnF wr w.heap.size (.slice A3 k c3) k (fun i => (f i).tmod 1000 * a2) := ⟨l3, HL3.out, hgood.out.2.2, ho3⟩
    have i1 := K1.intsV
    have i2 := K2.intsV
    have i3 := K3.intsV
    generalize wr = we at *
    clear K1 K2 K3 ho1 ho2 ho3 hgood hap HL1 HL2 HL3 HM hlt HF HR
    rcases (by omega : (¬ (k : Int) < len0) ∨ ((k : Int) < len0 ∧ ¬ (k : Int) < 50)) with h | ⟨h, h'⟩
    all_goals
      go_wp2_with fail
      go_loopg [11, 12] (k + 1) (fun m s i wx => ∃ (j cs : Nat) (As : Option Addr) (l : List Int), j ≤ k ∧ m = k + 1 - j ∧ i = .int .i64 j ∧ s = .slice As j cs ∧ l.length = j ∧ Hid (∀ i, i < j → l.getD i 0 = (f i).tmod 1000) ∧ Own intC 3 1 wx we.heap.size (.slice As j cs) l ∧ Below we.heap.size we wx)
      case atStart => exact ⟨0, 0, none, [], by omega, rfl, rfl, rfl, rfl, Lib.hid (fun i h => absurd h (by omega)), Own.nil _ _ _ _ _, Below.refl _ _⟩
      case round =>
      obtain ⟨j, cs, As, l, hj, hm, rfl, rfl, rfl, hgood, hown, hbx⟩ := hrel
      have HM := Lib.hid hm
      clear hm
      by_cases hlt : l.length < k
      · have hltI : (l.length : Int) < k := by omega
        obtain ⟨b1, o1, rfl, hb1, hc1⟩ := i1.rd (by omega)
        have x1 := (hbx.cell hb1 (p := ⟨b1, o1 + l.length, none⟩)).trans (hc1 l.length hlt)
        have u1 := HFN.out l.length hlt
        obtain ⟨x, hx⟩ : ∃ x, f l.length = x := ⟨_, rfl⟩
        rw [hx] at x1 u1
        have HX := Lib.hid hx
        have hm1 := shi_mod x
        have hsz := hbx.size
        clear hc1 hx i1 i2 i3
        go_wp2_with (at_builtin; refine wpList_append_lies _ (by rfl) (.tmp 76) (.tmp 82) 27 (by rfl) we.heap.size 3 i0 _ 1 8 Tryd.underlying27 hi hz0 hz1 hz2 rfl (by omega) _ _ _ (by rfl) (World.ownsRow.alloc hown _) ⟨wr.heap.size, 0, none⟩ 1 1 [.int .i64 (x.tmod 1000)] (by rfl) (by rfl) (World.news_of_block (heap_alloc_new _ _)) (by simp [Value.oneCell']) (by omega) (by unfold maxLen; omega) (by omega) (by simp; omega) (wr.heap.size + 1) (by simp) ?_; intro g' cap' w6 hown6 hgrow hat hlt6)
        have hb6 := (hbx.alloc hbx.size (.cells #[.int .i64 (x.tmod 1000)] 3)).grown hgrow (by simp; omega) (fun q hq => (World.ownsRow.lt hown q hq).1)
        have ho6 : Own intC 3 1 w6 we.heap.size (.slice (some ⟨g', 0, none⟩) (l.length + 1) cap') (l ++ [x.tmod 1000]) := Own.snoc (c := intC) hown6
        clear hown6 hgrow hat hown hbx
        go_roundg (k + 1 - (l.length + 1))
        case measure => have := HM.out; omega
        case rel => exact ⟨l.length + 1, cap', some ⟨g', 0, none⟩, _, by omega, rfl, by go_num, rfl, by simp, Lib.hid (getD_snoc hgood.out (by rw [HX.out])), ho6, hb6⟩
      · have hjk : l.length = k := by omega
        have K4 : OwnF wr we.heap.size (.slice As l.length cs) l.length (fun i => (f i).tmod 1000) := ⟨l, rfl, hgood.out, hown⟩
        rw [hjk] at K4 ⊢
        have ib := K4.intsV
        replace i1 := i1.below hbx
        replace i2 := i2.below hbx
        replace i3 := i3.below hbx
        replace hbr := below_trans' hbr hbr.size hbx
        have hltI : ¬ (k : Int) < k := by omega
        clear K4 hown hgood HM hlt hj hbx hjk
        by_cases hk2 : 2 ≤ k
        · have hk2I : (2 : Int) ≤ k := by omega
          have fA : Fit f k := ⟨by omega, fun i hi => by have := HFN.out i hi; omega⟩
          have fB : Fit (fun i => f i + a1) k := ⟨by omega, fun i hi => by have := HFN.out i hi; show -1048576 ≤ f i + a1 ∧ f i + a1 ≤ 1048576; omega⟩
          have fC : Fit (fun i => (f i).tmod 1000) k := ⟨by omega, fun i hi => by have := shi_mod (f i); show -1048576 ≤ (f i).tmod 1000 ∧ (f i).tmod 1000 ≤ 1048576; omega⟩
          have fD : Fit (fun i => (f i).tmod 1000 * a2) k := ⟨by omega, fun i hi => by have := shi_mul (x := f i) hk; show -1048576 ≤ (f i).tmod 1000 * a2 ∧ (f i).tmod 1000 * a2 ≤ 1048576; omega⟩
          obtain ⟨X, Y, -, TX⟩ := txV_tx ((mean_E2 fA (by omega)).fits (by decide) (by decide))
          obtain ⟨U, V, -, TU⟩ := txV_tx ((var_E2 fA hk2).fits (by decide) (by decide))
          obtain ⟨X2, Y2, -, TX2⟩ := txV_tx ((mean_E2 fB (by omega)).fits (by decide) (by decide))
          have TU2 : Tx U V (varQ (fun i => f i + a1) k) := by rw [var_shift]; exact TU
          obtain ⟨P, Q, -, TP⟩ := txV_tx ((mean_E2 fC (by omega)).fits (by decide) (by decide))
          obtain ⟨S, R, -, TS⟩ := txV_tx ((var_E2 fC hk2).fits (by decide) (by decide))
          obtain ⟨P2, Q2, -, TP2⟩ := txV_tx ((mean_E2 fD (by omega)).fits (by decide) (by decide))
          obtain ⟨S2, R2, -, TS2⟩ := txV_tx ((var_E2 fD hk2).fits (by decide) (by decide))
          have hkk : -16384 ≤ a2 * a2 ∧ a2 * a2 ≤ 16384 := mulI_bd (a := 128) (b := 128) (by decide) (by omega) (by omega)
          obtain ⟨J1, J2, TJ, hJ⟩ := frac37 (a := a1) (b := 1) (by decide) (by omega) (by omega) (by decide) (by decide) ((num_E2 (a := 20) (by omega)).fits (by decide) (by decide))
          obtain ⟨M1, M2, TM, hM⟩ := frac37 (a := a2) (b := 1) (by decide) (by omega) (by omega) (by decide) (by decide) ((num_E2 (a := 20) (by omega)).fits (by decide) (by decide))
          obtain ⟨N1', N2', TN, hN⟩ := frac37 (a := a2 * a2) (b := 1) (by decide) (by omega) (by omega) (by decide) (by decide) ((num_E2 (a := 20) (by omega)).fits (by decide) (by decide))
          have TX2' : Tx X2 Y2 (meanQ f k + frQ a1 1) := by rw [← mean_shift a1 (by omega)]; exact TX2
          have TP2' : Tx P2 Q2 (meanQ (fun i => (f i).tmod 1000) k * frQ a2 1) := by rw [← mean_scale]; exact TP2
          have TS2' : Tx S2 R2 (varQ (fun i => (f i).tmod 1000) k * frQ (a2 * a2) 1) := by rw [← var_scale]; exact TS2
          have C1 := Lib.hid (fun w (h : IntsV w A1 k c1 f) => of36 _ k c1 _ X Y U V w h fA hk2 TX TU)
          have C2 := Lib.hid (fun w (h : IntsV w A2 k c2 (fun i => f i + a1)) => of36 _ k c2 _ X2 Y2 U V w h fB hk2 TX2 TU2)
          have C3 := Lib.hid (fun w (h : IntsV w As k cs (fun i => (f i).tmod 1000)) => of36 _ k cs _ P Q S R w h fC hk2 TP TS)
          have C4 := Lib.hid (fun w (h : IntsV w A3 k c3 (fun i => (f i).tmod 1000 * a2)) => of36 _ k c3 _ P2 Q2 S2 R2 w h fD hk2 TP2 TS2)
          have D1 := Lib.hid (refAdd TX TJ TX2')
          have D2 := Lib.hid (refMul TP TM TP2')
          have D3 := Lib.hid (refMul TS TN TS2')
          have G1 : Hid (∀ w, Calls Tryd.prog 37 #[.int .i64 a1, .int .i64 1] w fun e w' => e = .returned (.agg #[.string J1, .string J2]) ∧ Below w.heap.size w w') := Lib.hid fun w => hJ w
          have G2 : Hid (∀ w, Calls Tryd.prog 37 #[.int .i64 a2, .int .i64 1] w fun e w' => e = .returned (.agg #[.string M1, .string M2]) ∧ Below w.heap.size w w') := Lib.hid fun w => hM w
          have G3 : Hid (∀ w, Calls Tryd.prog 37 #[.int .i64 (a2 * a2), .int .i64 1] w fun e w' => e = .returned (.agg #[.string N1', .string N2']) ∧ Below w.heap.size w w') := Lib.hid fun w => hN w
          clear fA fB fC fD TX TU TX2 TU2 TP TS TP2 TS2 TJ TM TN TX2' TP2' TS2' hJ hM hN
          go_wp2_with fail
          refine (C1.out _ i1).mono ?_
          rintro e w1 ⟨rfl, hbq⟩
          have hst := below_trans' hbq hbq.size ((Below.refl w1.heap.size w1).alloc (Nat.le_refl _) (.cells #[.int .i64 k, .string X, .string Y, .string U, .string V] 48))
          have t1 := heap_alloc_new w1 (.cells #[.int .i64 k, .string X, .string Y, .string U, .string V] 48)
          replace i1 := i1.below hst
          replace i2 := i2.below hst
          replace i3 := i3.below hst
          replace ib := ib.below hst
          replace hbr := below_trans' hbr hbr.size hst
          clear hst hbq
          go_wp2_with fail
          generalize w1.alloc (.cells #[.int .i64 k, .string X, .string Y, .string U, .string V] 48) = v1 at *
          generalize w1.heap.size = N1 at *
          refine (C2.out _ i2).mono ?_
          rintro e w2 ⟨rfl, hbq⟩
          have hst := below_trans' hbq hbq.size ((Below.refl w2.heap.size w2).alloc (Nat.le_refl _) (.cells #[.int .i64 k, .string X2, .string Y2, .string U, .string V] 48))
          have t2 := heap_alloc_new w2 (.cells #[.int .i64 k, .string X2, .string Y2, .string U, .string V] 48)
          replace i1 := i1.below hst
          replace i2 := i2.below hst
          replace i3 := i3.below hst
          replace ib := ib.below hst
          replace t1 := blk_below hst t1
          replace hbr := below_trans' hbr hbr.size hst
          clear hst hbq
          go_wp2_with fail
          generalize w2.alloc (.cells #[.int .i64 k, .string X2, .string Y2, .string U, .string V] 48) = v2 at *
          generalize w2.heap.size = N2 at *
          refine (C3.out _ ib).mono ?_
          rintro e w3 ⟨rfl, hbq⟩
          have hst := below_trans' hbq hbq.size ((Below.refl w3.heap.size w3).alloc (Nat.le_refl _) (.cells #[.int .i64 k, .string P, .string Q, .string S, .string R] 48))
          have t3 := heap_alloc_new w3 (.cells #[.int .i64 k, .string P, .string Q, .string S, .string R] 48)
          replace i1 := i1.below hst
          replace i2 := i2.below hst
          replace i3 := i3.below hst
          replace ib := ib.below hst
          replace t1 := blk_below hst t1
          replace t2 := blk_below hst t2
          replace hbr := below_trans' hbr hbr.size hst
          clear hst hbq
          go_wp2_with fail
          generalize w3.alloc (.cells #[.int .i64 k, .string P, .string Q, .string S, .string R] 48) = v3 at *
          generalize w3.heap.size = N3 at *
          refine (C4.out _ i3).mono ?_
          rintro e w4 ⟨rfl, hbq⟩
          have hst := below_trans' hbq hbq.size ((Below.refl w4.heap.size w4).alloc (Nat.le_refl _) (.cells #[.int .i64 k, .string P2, .string Q2, .string S2, .string R2] 48))
          have t4 := heap_alloc_new w4 (.cells #[.int .i64 k, .string P2, .string Q2, .string S2, .string R2] 48)
          replace t1 := blk_below hst t1
          replace t2 := blk_below hst t2
          replace t3 := blk_below hst t3
          replace hbr := below_trans' hbr hbr.size hst
          clear hst hbq
          clear i1 i2 i3 ib
          go_wp2_with fail
          generalize w4.alloc (.cells #[.int .i64 k, .string P2, .string Q2, .string S2, .string R2] 48) = v4 at *
          generalize w4.heap.size = N4 at *
          have hbd : Below v4.heap.size v4 v4.drew := (Below.refl _ _).drew
          have hzz : ∀ x : Beh LeW v4.drew, Below v4.heap.size v4 x.w := fun x => below_trans' hbd hbd.size x.h
          have z1 : ∀ x : Beh LeW v4.drew, x.w.cell? ⟨N1, 1, none⟩ = some (.string X) := fun x => (cells5 (blk_below (hzz x) t1)).2.1
          have z2 : ∀ x : Beh LeW v4.drew, x.w.cell? ⟨N1, 2, none⟩ = some (.string Y) := fun x => (cells5 (blk_below (hzz x) t1)).2.2.1
          refine wp_region_loose (R := LeW) 10 179 [8] [(4, [], none), (5, [], none), (9, [], some (fresh v4.heap.size #[.string ⟨#[]⟩, .string ⟨#[]⟩] 23))] (by kernel_rfl) (by kernel_rfl) (by kernel_rfl) (by kernel_rfl) (fun _ _ _ _ _ _ h => h) rfl LeW.refl (fun _ _ _ => LeW.trans) ?_
          simp only [Late, List.take_succ_cons, List.drop_succ_cons, List.take_zero, List.drop_zero, Nat.reduceSub, Nat.reduceAdd, Nat.sub_zero]
          repeat (go_big_quiet_step (fail))
          refine wpQuiet_nil ?_
          refine late_call Tryd.func37 (by kernel_rfl) (by kernel_rfl) (fun x => G1.out x.w) rfl (by simp only [Act.put, List.setIfInBounds_toArray, List.set_cons_succ, List.set_cons_zero]; rfl) ?_
          refine wpQuiet_nil ?_
          refine late_call Tryd.func28 (by kernel_rfl) (by kernel_rfl) (fun x => D1.out x.w) rfl (by simp only [Act.put, List.setIfInBounds_toArray, List.set_cons_succ, List.set_cons_zero]; rfl) ?_
          repeat (go_big_quiet_step (fail))
          refine wpQuiet_nil ?_
          refine late_alloc (fun _ _ => by kernel_rfl) (fun x => Nat.le_trans hbd.size x.h.size) (by simp only [Act.put, List.setIfInBounds_toArray, List.set_cons_succ, List.set_cons_zero]; rfl) ?_
          refine wpQuiet_nil ?_
          intro x
          simp only [List.nil_append, allGens, Option.getD_some]
          rintro vp ⟨E1, rfl, hdE1, gd⟩
          simp only [Act.put, List.setIfInBounds_toArray, List.set_cons_succ, List.set_cons_zero]
          have hst := hzz x
          have pt1 := (other_blk' (g := E1) (i := 1) (x := .string Y2) (by have := lt_of_blk t1; omega)).trans ((other_blk' (g := E1) (i := 0) (x := .string X2) (by have := lt_of_blk t1; omega)).trans (blk_below hst t1))
          have pt2 := (other_blk' (g := E1) (i := 1) (x := .string Y2) (by have := lt_of_blk t2; omega)).trans ((other_blk' (g := E1) (i := 0) (x := .string X2) (by have := lt_of_blk t2; omega)).trans (blk_below hst t2))
          have pt3 := (other_blk' (g := E1) (i := 1) (x := .string Y2) (by have := lt_of_blk t3; omega)).trans ((other_blk' (g := E1) (i := 0) (x := .string X2) (by have := lt_of_blk t3; omega)).trans (blk_below hst t3))
          have pt4 := (other_blk' (g := E1) (i := 1) (x := .string Y2) (by have := lt_of_blk t4; omega)).trans ((other_blk' (g := E1) (i := 0) (x := .string X2) (by have := lt_of_blk t4; omega)).trans (blk_below hst t4))
          have y1 := cells2 gd
          have y2 := free_of_block gd
          have tE1 := block_set (block_set gd 0 (.string X2)) 1 (.string Y2)
          replace hbr := below_sets2 (below_trans' hbr hbr.size hst) (show _ ≤ E1 from Nat.le_trans hbr.size hdE1) (.string X2) (.string Y2)
          clear z1 z2 hzz hst hbd t1 t2 t3 t4
          have t1 := pt1
          have t2 := pt2
          have t3 := pt3
          have t4 := pt4
          clear pt1 pt2 pt3 pt4
          generalize x.w = wy at *
          go_wp2_with fail
          generalize (wy.setCell ⟨E1, 0, none⟩ (.string X2)).setCell ⟨E1, 1, none⟩ (.string Y2) = v5 at *
          replace tE1 : v5.heap[E1]? = some (.cells #[.string X2, .string Y2] 23 (0, 0)) := tE1
          clear y1 y2 gd
          have hbd : Below v5.heap.size v5 v5.drew := (Below.refl _ _).drew
          have hzz : ∀ x : Beh LeW v5.drew, Below v5.heap.size v5 x.w := fun x => below_trans' hbd hbd.size x.h
          have z1 : ∀ x : Beh LeW v5.drew, x.w.cell? ⟨N3, 1, none⟩ = some (.string P) := fun x => (cells5 (blk_below (hzz x) t3)).2.1
          have z2 : ∀ x : Beh LeW v5.drew, x.w.cell? ⟨N3, 2, none⟩ = some (.string Q) := fun x => (cells5 (blk_below (hzz x) t3)).2.2.1
          refine wp_region_loose (R := LeW) 10 179 [8] [(4, [], none), (5, [], none), (9, [], some (fresh v5.heap.size #[.string ⟨#[]⟩, .string ⟨#[]⟩] 23))] (by kernel_rfl) (by kernel_rfl) (by kernel_rfl) (by kernel_rfl) (fun _ _ _ _ _ _ h => h) rfl LeW.refl (fun _ _ _ => LeW.trans) ?_
          simp only [Late, List.take_succ_cons, List.drop_succ_cons, List.take_zero, List.drop_zero, Nat.reduceSub, Nat.reduceAdd, Nat.sub_zero]
          repeat (go_big_quiet_step (fail))
          refine wpQuiet_nil ?_
          refine late_call Tryd.func37 (by kernel_rfl) (by kernel_rfl) (fun x => G2.out x.w) rfl (by simp only [Act.put, List.setIfInBounds_toArray, List.set_cons_succ, List.set_cons_zero]; rfl) ?_
          refine wpQuiet_nil ?_
          refine late_call Tryd.func26 (by kernel_rfl) (by kernel_rfl) (fun x => D2.out x.w) rfl (by simp only [Act.put, List.setIfInBounds_toArray, List.set_cons_succ, List.set_cons_zero]; rfl) ?_
          repeat (go_big_quiet_step (fail))
          refine wpQuiet_nil ?_
          refine late_alloc (fun _ _ => by kernel_rfl) (fun x => Nat.le_trans hbd.size x.h.size) (by simp only [Act.put, List.setIfInBounds_toArray, List.set_cons_succ, List.set_cons_zero]; rfl) ?_
          refine wpQuiet_nil ?_
          intro x
          simp only [List.nil_append, allGens, Option.getD_some]
          rintro vp ⟨E2, rfl, hdE2, gd⟩
          simp only [Act.put, List.setIfInBounds_toArray, List.set_cons_succ, List.set_cons_zero]
          have hst := hzz x
          have pt1 := (other_blk' (g := E2) (i := 1) (x := .string Q2) (by have := lt_of_blk t1; omega)).trans ((other_blk' (g := E2) (i := 0) (x := .string P2) (by have := lt_of_blk t1; omega)).trans (blk_below hst t1))
          have pt2 := (other_blk' (g := E2) (i := 1) (x := .string Q2) (by have := lt_of_blk t2; omega)).trans ((other_blk' (g := E2) (i := 0) (x := .string P2) (by have := lt_of_blk t2; omega)).trans (blk_below hst t2))
          have pt3 := (other_blk' (g := E2) (i := 1) (x := .string Q2) (by have := lt_of_blk t3; omega)).trans ((other_blk' (g := E2) (i := 0) (x := .string P2) (by have := lt_of_blk t3; omega)).trans (blk_below hst t3))
          have pt4 := (other_blk' (g := E2) (i := 1) (x := .string Q2) (by have := lt_of_blk t4; omega)).trans ((other_blk' (g := E2) (i := 0) (x := .string P2) (by have := lt_of_blk t4; omega)).trans (blk_below hst t4))
          have ptE1 := (other_blk' (g := E2) (i := 1) (x := .string Q2) (by have := lt_of_blk tE1; omega)).trans ((other_blk' (g := E2) (i := 0) (x := .string P2) (by have := lt_of_blk tE1; omega)).trans (blk_below hst tE1))
          have y1 := cells2 gd
          have y2 := free_of_block gd
          have tE2 := block_set (block_set gd 0 (.string P2)) 1 (.string Q2)
          replace hbr := below_sets2 (below_trans' hbr hbr.size hst) (show _ ≤ E2 from Nat.le_trans hbr.size hdE2) (.string P2) (.string Q2)
          clear z1 z2 hzz hst hbd t1 t2 t3 t4 tE1
          have t1 := pt1
          have t2 := pt2
          have t3 := pt3
          have t4 := pt4
          have tE1 := ptE1
          clear pt1 pt2 pt3 pt4 ptE1
          generalize x.w = wy at *
          go_wp2_with fail
          generalize (wy.setCell ⟨E2, 0, none⟩ (.string P2)).setCell ⟨E2, 1, none⟩ (.string Q2) = v6 at *
          replace tE2 : v6.heap[E2]? = some (.cells #[.string P2, .string Q2] 23 (0, 0)) := tE2
          clear y1 y2 gd
          have hbd : Below v6.heap.size v6 v6.drew := (Below.refl _ _).drew
          have hzz : ∀ x : Beh LeW v6.drew, Below v6.heap.size v6 x.w := fun x => below_trans' hbd hbd.size x.h
          have z1 : ∀ x : Beh LeW v6.drew, x.w.cell? ⟨N3, 3, none⟩ = some (.string S) := fun x => (cells5 (blk_below (hzz x) t3)).2.2.2.1
          have z2 : ∀ x : Beh LeW v6.drew, x.w.cell? ⟨N3, 4, none⟩ = some (.string R) := fun x => (cells5 (blk_below (hzz x) t3)).2.2.2.2
          refine wp_region_loose (R := LeW) 13 179 [11] [(7, [], none), (8, [], none), (12, [], some (fresh v6.heap.size #[.string ⟨#[]⟩, .string ⟨#[]⟩] 23))] (by kernel_rfl) (by kernel_rfl) (by kernel_rfl) (by kernel_rfl) (fun _ _ _ _ _ _ h => h) rfl LeW.refl (fun _ _ _ => LeW.trans) ?_
          simp only [Late, List.take_succ_cons, List.drop_succ_cons, List.take_zero, List.drop_zero, Nat.reduceSub, Nat.reduceAdd, Nat.sub_zero]
          repeat (go_big_quiet_step (fail))
          refine wpQuiet_nil ?_
          refine late_call Tryd.func37 (by kernel_rfl) (by kernel_rfl) (fun x => G3.out x.w) rfl (by simp only [Act.put, List.setIfInBounds_toArray, List.set_cons_succ, List.set_cons_zero]; rfl) ?_
          refine wpQuiet_nil ?_
          refine late_call Tryd.func26 (by kernel_rfl) (by kernel_rfl) (fun x => D3.out x.w) rfl (by simp only [Act.put, List.setIfInBounds_toArray, List.set_cons_succ, List.set_cons_zero]; rfl) ?_
          repeat (go_big_quiet_step (fail))
          refine wpQuiet_nil ?_
          refine late_alloc (fun _ _ => by kernel_rfl) (fun x => Nat.le_trans hbd.size x.h.size) (by simp only [Act.put, List.setIfInBounds_toArray, List.set_cons_succ, List.set_cons_zero]; rfl) ?_
          refine wpQuiet_nil ?_
          intro x
          simp only [List.nil_append, allGens, Option.getD_some]
          rintro vp ⟨E3, rfl, hdE3, gd⟩
          simp only [Act.put, List.setIfInBounds_toArray, List.set_cons_succ, List.set_cons_zero]
          have hst := hzz x
          have pt1 := (other_blk' (g := E3) (i := 1) (x := .string R2) (by have := lt_of_blk t1; omega)).trans ((other_blk' (g := E3) (i := 0) (x := .string S2) (by have := lt_of_blk t1; omega)).trans (blk_below hst t1))
          have pt2 := (other_blk' (g := E3) (i := 1) (x := .string R2) (by have := lt_of_blk t2; omega)).trans ((other_blk' (g := E3) (i := 0) (x := .string S2) (by have := lt_of_blk t2; omega)).trans (blk_below hst t2))
          have pt3 := (other_blk' (g := E3) (i := 1) (x := .string R2) (by have := lt_of_blk t3; omega)).trans ((other_blk' (g := E3) (i := 0) (x := .string S2) (by have := lt_of_blk t3; omega)).trans (blk_below hst t3))
          have pt4 := (other_blk' (g := E3) (i := 1) (x := .string R2) (by have := lt_of_blk t4; omega)).trans ((other_blk' (g := E3) (i := 0) (x := .string S2) (by have := lt_of_blk t4; omega)).trans (blk_below hst t4))
          have ptE1 := (other_blk' (g := E3) (i := 1) (x := .string R2) (by have := lt_of_blk tE1; omega)).trans ((other_blk' (g := E3) (i := 0) (x := .string S2) (by have := lt_of_blk tE1; omega)).trans (blk_below hst tE1))
          have ptE2 := (other_blk' (g := E3) (i := 1) (x := .string R2) (by have := lt_of_blk tE2; omega)).trans ((other_blk' (g := E3) (i := 0) (x := .string S2) (by have := lt_of_blk tE2; omega)).trans (blk_below hst tE2))
          have y1 := cells2 gd
          have y2 := free_of_block gd
          have tE3 := block_set (block_set gd 0 (.string S2)) 1 (.string R2)
          replace hbr := below_sets2 (below_trans' hbr hbr.size hst) (show _ ≤ E3 from Nat.le_trans hbr.size hdE3) (.string S2) (.string R2)
          clear z1 z2 hzz hst hbd t1 t2 t3 t4 tE1 tE2
          have t1 := pt1
          have t2 := pt2
          have t3 := pt3
          have t4 := pt4
          have tE1 := ptE1
          have tE2 := ptE2
          clear pt1 pt2 pt3 pt4 ptE1 ptE2
          generalize x.w = wy at *
          have m1 := cells5 (by exact t1)
          have m2 := cells5 t2
          have m4 := cells5 t4
          have m5 := cells2 tE1
          have m6 := cells2 tE2
          have m7 := cells2 tE3
          clear t1 t2 t3 t4 tE1 tE2 tE3
          go_wp2_with fail
          go_ret
          exact ⟨rfl, hbr⟩
        · have hk2I' : ¬ (2 : Int) ≤ k := by omega
          have HK2 := Lib.hid hk2I'
          have hb : ∀ F : Nat → Int, ¬ (2 ≤ k ∧ Fit F k) := fun F h => hk2 h.1
          have C1 := Lib.hid (fun w (h : IntsV w A1 k c1 f) => of36_no _ k c1 _ w h (hb _))
          have C2 := Lib.hid (fun w (h : IntsV w A2 k c2 (fun i => f i + a1)) => of36_no _ k c2 _ w h (hb _))
          have C3 := Lib.hid (fun w (h : IntsV w As k cs (fun i => (f i).tmod 1000)) => of36_no _ k cs _ w h (hb _))
          have C4 := Lib.hid (fun w (h : IntsV w A3 k c3 (fun i => (f i).tmod 1000 * a2)) => of36_no _ k c3 _ w h (hb _))
          clear hb hk2 hk2I'
          go_wp2_with fail
          refine (C1.out _ i1).mono ?_
          rintro e w1 ⟨Z, X, Y, U, V, rfl, hbq⟩
          have hst := below_trans' hbq hbq.size ((Below.refl w1.heap.size w1).alloc (Nat.le_refl _) (.cells #[.int .i64 Z, .string X, .string Y, .string U, .string V] 48))
          have t1 := heap_alloc_new w1 (.cells #[.int .i64 Z, .string X, .string Y, .string U, .string V] 48)
          replace i1 := i1.below hst
          replace i2 := i2.below hst
          replace i3 := i3.below hst
          replace ib := ib.below hst
          replace hbr := below_trans' hbr hbr.size hst
          clear hst hbq
          go_wp2_with fail
          generalize w1.alloc (.cells #[.int .i64 Z, .string X, .string Y, .string U, .string V] 48) = v1 at *
          generalize w1.heap.size = N1 at *
          refine (C2.out _ i2).mono ?_
          rintro e w2 ⟨Z, X, Y, U, V, rfl, hbq⟩
          have hst := below_trans' hbq hbq.size ((Below.refl w2.heap.size w2).alloc (Nat.le_refl _) (.cells #[.int .i64 Z, .string X, .string Y, .string U, .string V] 48))
          have t2 := heap_alloc_new w2 (.cells #[.int .i64 Z, .string X, .string Y, .string U, .string V] 48)
          replace i1 := i1.below hst
          replace i2 := i2.below hst
          replace i3 := i3.below hst
          replace ib := ib.below hst
          replace hbr := below_trans' hbr hbr.size hst
          clear hst hbq
          go_wp2_with fail
          generalize w2.alloc (.cells #[.int .i64 Z, .string X, .string Y, .string U, .string V] 48) = v2 at *
          generalize w2.heap.size = N2 at *
          refine (C3.out _ ib).mono ?_
          rintro e w3 ⟨Z, X, Y, U, V, rfl, hbq⟩
          have hst := below_trans' hbq hbq.size ((Below.refl w3.heap.size w3).alloc (Nat.le_refl _) (.cells #[.int .i64 Z, .string X, .string Y, .string U, .string V] 48))
          have t3 := heap_alloc_new w3 (.cells #[.int .i64 Z, .string X, .string Y, .string U, .string V] 48)
          replace i1 := i1.below hst
          replace i2 := i2.below hst
          replace i3 := i3.below hst
          replace ib := ib.below hst
          replace hbr := below_trans' hbr hbr.size hst
          clear hst hbq
          go_wp2_with fail
          generalize w3.alloc (.cells #[.int .i64 Z, .string X, .string Y, .string U, .string V] 48) = v3 at *
          generalize w3.heap.size = N3 at *
          refine (C4.out _ i3).mono ?_
          rintro e w4 ⟨Z, X, Y, U, V, rfl, hbq⟩
          have hbe := below_trans' hbr hbr.size (below_trans' hbq hbq.size ((Below.refl w4.heap.size w4).alloc (Nat.le_refl _) (.cells #[.int .i64 Z, .string X, .string Y, .string U, .string V] 48)))
          clear hbq hbr
          have hk2B : decide ((2 : Int) ≤ (k : Int)) = false := decide_eq_false (by have := HK2.out; omega)
          go_wp2_with fail
          go_ret
          exact ⟨rfl, hbe⟩
end Go.Proofs.YtpligjkbnlfhgaaDoor
