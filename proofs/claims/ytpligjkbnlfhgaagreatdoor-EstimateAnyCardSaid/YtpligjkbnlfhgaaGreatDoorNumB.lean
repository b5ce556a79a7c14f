/- pair: two lists of a law of chapter 38. No statement is proved here. -/
import Derived.Test.YtpligjkbnlfhgaaGreatDoorNumA
import Derived.Test.YtpligjkbnlfhgaaGreatDoorPairW
namespace Go.Proofs.YtpligjkbnlfhgaaGreatDoor
open Go.RowKit

set_option maxRecDepth 100000 in
set_option maxHeartbeats 8000000 in
theorem pair42 (A : Option Addr) (n c : Nat) (s : Int) (f g : Nat → Int) (w : World) (hs : 0 ≤ s ∧ s ≤ 255) (hr : Rd32 w A n f g) (hf : bd32 f n) (hg : bd32 g n) (hn : n * 8 ≤ 140737488351232) :
    Calls Tryz.prog 23 #[.slice A n c, .int .u8 s] w fun e w' => ∃ A1 c1 A2 c2, e = .returned (.tuple #[.slice A1 (min n 60) c1, .slice A2 (min n 60) c2]) ∧ OwnF w' w.heap.size (.slice A1 (min n 60) c1) (min n 60) (fun i => numN s (f i)) ∧ OwnF w' w.heap.size (.slice A2 (min n 60) c2) (min n 60) (fun i => numN (s / 4) (g i)) ∧ apartV (.slice A1 (min n 60) c1) (.slice A2 (min n 60) c2) ∧ Below w.heap.size w w' := by
  have HR := Lib.hid hr
  have HF := Lib.hid hf
  have HG := Lib.hid hg
  have hq : 0 ≤ s / 4 ∧ s / 4 ≤ 255 := by omega
  have hnm : n ≤ maxLen := by unfold maxLen; omega
  clear hr hf hg
  go_enter Tryz.func23, Tryz.ntmps23
  go_wp2_with fail
  go_loopg [6, 7, 8] (n + 1) (fun m p q i wr => ∃ (k cp cq : Nat) (Ap Aq : Option Addr) (lp lq : List Int), k ≤ n ∧ m = n + 1 - k ∧ i = .int .i64 k ∧ p = .slice Ap k cp ∧ q = .slice Aq k cq ∧ lp.length = k ∧ lq.length = k ∧ Hid ((∀ i, i < k → lp.getD i 0 = f i) ∧ (∀ i, i < k → lq.getD i 0 = g i)) ∧ Own intW 21 1 wr w.heap.size (.slice Ap k cp) lp ∧ Own intW 21 1 wr w.heap.size (.slice Aq k cq) lq ∧ apartV (.slice Ap k cp) (.slice Aq k cq) ∧ Below w.heap.size w wr)
  case atStart => exact ⟨0, 0, 0, none, none, [], [], by omega, rfl, rfl, rfl, rfl, rfl, rfl, Lib.hid ⟨fun i h => absurd h (by omega), fun i h => absurd h (by omega)⟩, Own.nil _ _ _ _ _, Own.nil _ _ _ _ _, (fun _ h => by cases h), Below.refl _ _⟩
  case round =>
    obtain ⟨k, cp, cq, Ap, Aq, lp, lq, hk, hm, rfl, rfl, rfl, hlp, hlq, hgood, hop, hoq, hap, hbr⟩ := hrel
    have HM := Lib.hid hm
    have HLP := Lib.hid hlp
    have HLQ := Lib.hid hlq
    clear hm hlp hlq
    by_cases hlt : k < n
    · have hltI : (k : Int) < n := by omega
      obtain ⟨b, off, rfl, hb0, hcc⟩ := HR.out (by omega)
      obtain ⟨v4, v5⟩ := hcc k hlt
      have u4 := HF.out k hlt
      have u5 := HG.out k hlt
      obtain ⟨xc, hxc⟩ : ∃ x, f k = x := ⟨_, rfl⟩
      obtain ⟨xd, hxd⟩ : ∃ x, g k = x := ⟨_, rfl⟩
      have HXC := Lib.hid hxc
      have HXD := Lib.hid hxd
      rw [hxc] at v4 u4
      rw [hxd] at v5 u5
      clear hcc hxc hxd
      have hrows : RowsW wr.drew w.heap.size [(.slice Ap k cp, lp, xc), (.slice Aq k cq, lq, xd)] := ⟨fun r hr => by
          simp only [List.mem_cons, List.not_mem_nil, or_false] at hr
          rcases hr with rfl | rfl
          · exact Own.below hop ((Below.refl _ _).drew)
          · exact Own.below hoq ((Below.refl _ _).drew), fun r hr s hs => by
          simp only [List.mem_cons, List.not_mem_nil, or_false] at hr hs
          rcases hr with rfl | rfl <;> rcases hs with rfl | rfl
          · exact .inl rfl
          · exact .inr hap
          · exact .inr fun g h1 h2 => hap g h2 h1
          · exact .inl rfl, hbr.size⟩
      have hmp := PAw_mono hrows (r := (.slice Ap k cp, lp, xc)) (by simp)
      have hmq := PAw_mono hrows (r := (.slice Aq k cq, lq, xd)) (by simp)
      have hrp := PAw_run hrows (r := (.slice Ap k cp, lp, xc)) (by simp) (by have := HLP.out; simp only; omega)
      have hrq := PAw_run hrows (r := (.slice Aq k cq, lq, xd)) (by simp) (by have := HLQ.out; simp only; omega)
      have htr := hrows.trans
      have hlt' := hrows.lt
      have hge' := hrows.ge
      have hS : ∀ z : Beh (RW (wsOfW [(.slice Ap k cp, lp, xc), (.slice Aq k cq, lq, xd)])) wr.drew, wr.drew.heap.size ≤ z.w.heap.size := fun z => z.h.size
      have hzb : ∀ z : Beh (RW (wsOfW [(.slice Ap k cp, lp, xc), (.slice Aq k cq, lq, xd)])) wr.drew, Below w.heap.size w z.w := fun z => hbr.drew.trans (z.h.below hbr.size hge')
      have x4 : ∀ z : Beh (RW (wsOfW [(.slice Ap k cp, lp, xc), (.slice Aq k cq, lq, xd)])) wr.drew, z.w.cell? ⟨b, off + k * 2, none⟩ = some (.int .i32 xc) := fun z => ((hzb z).cell hb0).trans v4
      have x5 : ∀ z : Beh (RW (wsOfW [(.slice Ap k cp, lp, xc), (.slice Aq k cq, lq, xd)])) wr.drew, z.w.cell? ⟨b, off + k * 2 + 1, none⟩ = some (.int .i32 xd) := fun z => ((hzb z).cell hb0).trans v5
      generalize hSe : wr.drew.heap.size = S at *
      clear hSe hop hoq v4 v5
      go_wp2_with fail
      refine wp_region_pair (R := RW (wsOfW [(.slice Ap k cp, lp, xc), (.slice Aq k cq, lq, xd)])) (fun v u => v.ownBlock ≠ u.ownBlock) 16 38 [] [(6, [], some (freshS S #[.int .i32 xc] 21 1), []), (7, [21], some (PAw w.heap.size S (.slice Ap k cp, lp, xc)), [PAw w.heap.size S (.slice Aq k cq, lq, xd)]), (14, [], some (freshS S #[.int .i32 xd] 21 1), []), (15, [29], some (PAw w.heap.size S (.slice Aq k cq, lq, xd)), [PAw w.heap.size S (.slice Ap k cp, lp, xc)])] [7, 15] [22, 30]
        (by kernel_rfl) (by kernel_rfl) (by kernel_rfl) (by kernel_rfl) (fun h => absurd rfl h) rfl (RW.refl _) htr (fun _ _ h => Ne.symm h) ⟨by kernel_rfl, by decide, by decide⟩ (sib2 (.tail _ (.head _)) (.tail _ (.tail _ (.tail _ (.head _))))) ?_
      simp only [LateP, List.take_succ_cons, List.drop_succ_cons, List.take_zero, List.drop_zero, Nat.reduceSub, Nat.reduceAdd, Nat.sub_zero]
      repeat (go_big_quiet_step (rfl))
      refine wpQuiet_nil ?_
      refine late_buildR (fun w => by kernel_rfl) (fun z => RW.of_le ((Below.refl _ _).alloc (Nat.le_refl _) _)) (freshS_rw hlt') hS (by simp only [Act.put, List.setIfInBounds_toArray, List.set_cons_succ, List.set_cons_zero]; rfl) ?_
      refine wpQuiet_nil ?_
      refine pair_app [] (by simp) hmp (fun _ => rfl) (fun z u hu => ?_) (by simp only [Act.put, List.setIfInBounds_toArray, List.set_cons_succ, List.set_cons_zero]; rfl) ?_
      · obtain ⟨v', w', e1, e2, e3, e4⟩ := hrp z u hu
        exact ⟨v', w', e1, e2, e3, fun ψ hψ => by rw [List.mem_singleton] at hψ; subst hψ; exact e4 _ (by simp) hap⟩
      repeat (go_big_quiet_step (rfl))
      refine wpQuiet_nil ?_
      refine late_buildR (fun w => by kernel_rfl) (fun z => RW.of_le ((Below.refl _ _).alloc (Nat.le_refl _) _)) (freshS_rw hlt') hS (by simp only [Act.put, List.setIfInBounds_toArray, List.set_cons_succ, List.set_cons_zero]; rfl) ?_
      refine wpQuiet_nil ?_
      refine pair_app [_, _] (by simp) hmq (fun _ => rfl) (fun z u hu => ?_) (by simp only [Act.put, List.setIfInBounds_toArray, List.set_cons_succ, List.set_cons_zero]; rfl) ?_
      · obtain ⟨v', w', e1, e2, e3, e4⟩ := hrq z u hu
        exact ⟨v', w', e1, e2, e3, fun ψ hψ => by rw [List.mem_singleton] at hψ; subst hψ; exact e4 _ (by simp) fun g h1 h2 => hap g h2 h1⟩
      refine wpQuiet_nil ?_
      intro z
      simp only [List.nil_append, List.cons_append, allGens, Option.getD_some]
      rintro v21 _ v22 p22 v29 _ v30 p30 hdist
      simp only [Act.put, List.setIfInBounds_toArray, List.set_cons_succ, List.set_cons_zero]
      have hd : v22.ownBlock ≠ v30.ownBlock := List.rel_of_pairwise_cons hdist (List.mem_singleton.2 rfl)
      have hbz := hzb z
      obtain ⟨o22, -, -⟩ := p22
      obtain ⟨o30, -, -⟩ := p30
      clear hdist x4 x5 hzb hS hrp hrq hmp hmq htr hlt' hge' hbr hrows
      generalize z.w = w4 at *
      have e22 : (lp ++ [xc]).length = k + 1 := by simp [HLP.out]
      have e30 : (lq ++ [xd]).length = k + 1 := by simp [HLQ.out]
      obtain ⟨A22, c22, rfl, -⟩ := Own.shape o22
      obtain ⟨A30, c30, rfl, -⟩ := Own.shape o30
      rw [e22] at o22 hd ⊢
      rw [e30] at o30 hd ⊢
      have E22 := Lib.hid e22
      have E30 := Lib.hid e30
      have HD := Lib.hid hd
      clear e22 e30 hd hap
      go_wp2_with fail
      go_roundg (n + 1 - (k + 1))
      case measure => have := HM.out; omega
      case rel =>
        refine ⟨k + 1, c22, c30, A22, A30, _, _, by omega, rfl, by go_num, rfl, rfl, E22.out, E30.out, Lib.hid ⟨?_, ?_⟩, o22, o30, fun g h1 h2 => HD.out (h1.trans h2.symm), hbz⟩
        · have h1 := HLP.out; subst h1; exact getD_snoc hgood.out.1 HXC.out.symm
        · have h1 := HLQ.out; have h2 := hgood.out.2; have h3 := HXD.out; rw [← h1] at h2 h3 ⊢; exact getD_snoc h2 h3.symm
    · have hkn : k = n := by omega
      subst hkn
      have hltI : ¬ (k : Int) < k := by omega
      have r1 : RdW wr Ap k f := by have := HLP.out; exact (ownW_rd hop (fun i hi => hgood.out.1 i (by omega))).2
      have r2 : RdW wr Aq k g := by have := HLQ.out; exact (ownW_rd hoq (fun i hi => hgood.out.2 i (by omega))).2
      clear hop hoq hap hgood HLP HLQ hlt
      go_wp2_with fail
      refine (numbers94 Ap k cp s f wr hs r1 HF.out hnm).mono ?_
      rintro e w1 ⟨A1, c1, rfl, o1, hb1⟩
      have r2' := r2.below hb1
      go_wp2_with fail
      refine (numbers94 Aq k cq (s / 4) g w1 hq r2' HG.out hnm).mono ?_
      rintro e w2 ⟨A2, c2, rfl, o2, hb2⟩
      go_wp2_with fail
      refine bodyPost_ret (v := .tuple #[.slice A1 (min k 60) c1, .slice A2 (min k 60) c2]) (by simp [results, Tryz.results23, go_sem]) rfl ?_
      have hsz := hbr.size
      have hsz1 := hb1.size
      have o1' := o1.below hb2
      refine ⟨A1, c1, A2, c2, rfl, o1'.mono hsz, o2.mono (by omega), fun gg h1 h2 => ?_, below_trans' (below_trans' hbr hsz hb1) (by omega) hb2⟩
      obtain ⟨l1, -, -, ow1⟩ := o1
      obtain ⟨l2, -, -, ow2⟩ := o2
      have := (Own.lt ow1 h1).1
      have := (Own.lt ow2 h2).2
      omega
end Go.Proofs.YtpligjkbnlfhgaaGreatDoor
