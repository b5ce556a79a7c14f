/- The walk of flagstonelaw39.ScorePast. -/
import Derived.Test.YtgonighpjpfmnaaPast0
import Derived.Test.YtgonighpjpfmnaaLate3
import Derived.StillTailTactics
namespace Go.Proofs.Ytgonighpjpfmnaa
open Go.RowKit

theorem own_setS {w : World} {B g n cap : Nat} {l : List Smp} (h : OwnSmp w B (.slice (some ⟨g, 0, none⟩) n cap) l) (hn : n = l.length) (k : Nat) (hk : k < l.length) (s' : Smp) (j : Nat) (u : Value) (hj : j < 10) (hs : s'.cells = (l.getD k default).cells.set j u) :
    OwnSmp (w.setCell ⟨g, k * 10 + j, none⟩ u) B (.slice (some ⟨g, 0, none⟩) n cap) (l.set k s') ∧ w.grownBy (w.setCell ⟨g, k * 10 + j, none⟩ u) (some g) := by
  subst hn
  obtain ⟨h1, h2⟩ := World.ownsRow.stored h (k * 10 + j) u
  refine ⟨?_, h2⟩
  unfold OwnSmp Own
  rw [List.length_set, ← flat_set Smp.cells 10 Smp.len s' u j hj l k (l.getD k default) (by rw [List.getElem?_eq_getElem hk, List.getD_eq_getElem?_getD, List.getElem?_eq_getElem hk]; rfl) hs]
  exact h1

set_option maxRecDepth 100000 in
set_option maxHeartbeats 4000000 in
theorem scorePast9 (a0 : Option Addr) (len0 cap0 : Nat) (z0 : List Int) (a1 : Option Addr) (len1 cap1 : Nat) (z1 : List Int) (a2 a3 a4 a5 a6 a7 : Int) (w : World) (w0 : IsRow .u8 w a0 len0 cap0 z0) (w1 : IsRow .u8 w a1 len1 cap1 z1) (w2 : (Lit.int .u8 a2).wf = true) (w3 : (Lit.int .u8 a3).wf = true) (w4 : (Lit.int .u8 a4).wf = true) (w5 : (Lit.int .u8 a5).wf = true) (w6 : (Lit.int .u8 a6).wf = true) (w7 : (Lit.int .u8 a7).wf = true) :
    Calls Try.prog 9 #[.slice a0 len0 cap0, .slice a1 len1 cap1, .int .u8 a2, .int .u8 a3, .int .u8 a4, .int .u8 a5, .int .u8 a6, .int .u8 a7] w fun e w' => e = .returned (.bool true) ∧ Below w.heap.size w w' := by
  have b2 := bounds_u8 w2
  have b3 := bounds_u8 w3
  have b4 := bounds_u8 w4
  have b5 := bounds_u8 w5
  have b6 := bounds_u8 w6
  have b7 := bounds_u8 w7
  have hB0 := w0.bytes
  have hB1 := w1.bytes
  obtain ⟨i0, hi, hz0, hz1, hz2⟩ := info_parts info34
  clear w0 w1 w2 w3 w4 w5 w6 w7
  by_cases hlen : 200 < len0 ∨ 200 < len1
  · go_enter Try.func9, Try.ntmps9
    go_wp2_with (go_at_call 30; refine (awake30 _).mono ?_; rintro e w' ⟨rfl, hb⟩)
    all_goals (go_ret; exact ⟨rfl, hb⟩)
  · have hl1 : decide (200 < (len0 : Int)) = false := by simp; omega
    have hl2 : decide (200 < (len1 : Int)) = false := by simp; omega
    go_enter Try.func9, Try.ntmps9
    go_wp2_with fail
    refine (awake30 w).mono ?_
    rintro e w1 ⟨rfl, hb1⟩
    go_wp2_with fail
    refine (samples31 a0 len0 cap0 90 w1 (by omega) (by omega) (by omega) ((hB0.kept hb1 (Nat.le_refl _)).more' hb1.size)).mono ?_
    rintro e w2 ⟨v, l, rfl, hl, hgood, hown, hb2⟩
    obtain ⟨A, cp, rfl, hcp⟩ := Own.shape hown
    have hR := OwnSmp.rows hown
    have hb := below_trans' hb1 hb1.size hb2
    clear hown hb1 hb2 hB0
    by_cases h0 : l.length = 0
    · have h0' : ((l.length : Int) == 0) = true := by simp [h0]
      go_wp2_with fail
      go_ret
      exact ⟨rfl, hb⟩
    · have h0' : ((l.length : Int) == 0) = false := by cases h : ((l.length : Int) == 0) with
        | false => rfl
        | true => exact absurd (by have := of_decide_eq_true h; omega) h0
      have r1 := Int.emod_nonneg a2 (show (l.length : Int) ≠ 0 by omega)
      have r2 := Int.emod_lt_of_pos a2 (show 0 < (l.length : Int) by omega)
      have hlp : 0 < (l.length : Int) := by omega
      have hln : ¬ (l.length : Int) = 0 := by omega
      obtain ⟨k, hk⟩ := Int.eq_ofNat_of_zero_le r1
      rw [hk] at r2
      have hkl : k < l.length := by exact_mod_cast r2
      clear r1
      -- other: the first k + 1 samples
      have gE := heap_alloc_new w2 (.cells #[] 34)
      have hbE : Below w2.heap.size w2 (w2.alloc (.cells #[] 34)) := (Below.refl _ _).alloc (Nat.le_refl _) _
      have hRE := (hR.below hbE (Nat.le_refl _)).more hbE.size
      have hRk : RowsAt (w2.alloc (.cells #[] 34)) (w2.alloc (.cells #[] 34)).heap.size 10 A (k + 1) (fun i => (l.getD i default).cells) := fun _ => by
        obtain ⟨b, off, hA, hb, hc⟩ := hRE (by omega)
        exact ⟨b, off, hA, hb, fun i hi => hc i (by omega)⟩
      obtain ⟨v1, w3, hrun1, ho1, hg1, g1, cap1', hv1⟩ := append_run Smp.cells 10 96 34 25 _ i0 Smp.len smp_one Try.underlying25 hi hz0 hz1 hz2 rfl (by omega) (w2.alloc (.cells #[] 34)) w2.heap.size (.slice (some ⟨w2.heap.size, 0, none⟩) 0 0) [] (own_empty gE (Nat.le_refl _)) ⟨_, _, rfl⟩ A (k + 1) cp (fun i => l.getD i default) (by omega) (by simp) (by omega) (by simp) hRk
      have hb3 : Below w2.heap.size w2 w3 := hbE.grown hg1 hbE.size (fun q hq => by simp [Value.ownBlock] at hq; omega)
      go_wp2_with (at_builtin; refine wpList_append_eq (by rfl) (.tmp 45) (.tmp 49) 25 (by rfl) _ _ (by rfl) (by rfl) hrun1 ?_)
      subst hv1
      simp only [List.length_nil, Nat.zero_add, List.nil_append] at ho1 ⊢
      have hbw3 := below_trans' hb hb.size hb3
      have hRl0 := hR
      have hR3 := (hR.below hb3 (Nat.le_refl _)).more hb3.size
      clear hrun1 hg1 gE hbE hRE hRk hR
      refine (samples31 a1 len1 cap1 90 w3 (by omega) (by omega) (by omega) ((hB1.kept hbw3 (Nat.le_refl _)).more' hbw3.size)).mono ?_
      rintro e w4 ⟨v2, l2, rfl, hl2', hgood2, hown2, hb4⟩
      obtain ⟨A2, cp2, rfl, hcp2⟩ := Own.shape hown2
      have hR2 := OwnSmp.rows hown2
      have ho1' := Own.below ho1 hb4
      have hR4 := (hR3.below hb4 (Nat.le_refl _)).more hb4.size
      have hbw4 := below_trans' hbw3 hbw3.size hb4
      have hsz4 : w2.heap.size ≤ w4.heap.size := Nat.le_trans hb3.size hb4.size
      obtain ⟨v3, w5, hrun2, ho2, hg2, g2, cap2', hv2⟩ := append_run Smp.cells 10 96 34 25 _ i0 Smp.len smp_one Try.underlying25 hi hz0 hz1 hz2 rfl (by omega) w4 w2.heap.size (.slice (some ⟨g1, 0, none⟩) (k + 1) cap1') ((List.range (k + 1)).map fun i => l.getD i default) ho1' ⟨g1, cap1', by simp⟩ A2 l2.length cp2 (fun i => l2.getD i default) (by omega) (by simp; omega) (by omega) hsz4 hR2
      have hq1 : ∀ q, (Value.slice (some ⟨g1, 0, none⟩) (k + 1) cap1').ownBlock = some q → w2.heap.size ≤ q := fun q hq => (World.ownsRow.lt ho1' q hq).1
      have hb5 : Below w2.heap.size w2 w5 := (hb3.trans (hb4.mono hb3.size)).grown hg2 hsz4 hq1
      have hl12 : ((List.range (k + 1)).map fun i => l.getD i default).length = k + 1 := by simp
      rw [hl12] at hv2
      subst hv2
      go_wp2_with (at_builtin; refine wpList_append_eq (by rfl) (.tmp 50) (.tmp 52) 25 (by rfl) _ _ (by rfl) (by rfl) hrun2 ?_)
      -- the list other
      obtain ⟨O, hO⟩ : ∃ O, ((List.range (k + 1)).map fun i => l.getD i default) ++ ((List.range l2.length).map fun i => l2.getD i default) = O := ⟨_, rfl⟩
      have hOl : O.length = k + 1 + l2.length := by rw [← hO]; simp
      have hOm : ∀ s ∈ O, Smp.made 90 s := fun s hs => by
        rw [← hO] at hs
        rcases List.mem_append.1 hs with h | h
        · exact made_range hgood (by omega) s h
        · exact made_range hgood2 (Nat.le_refl _) s h
      have hOf : ∀ i, i < k + 1 → O.getD i default = l.getD i default := fun i hi => by
        rw [← hO, getD_append_l (by simp; omega), getD_map_range hi]
      rw [hO] at ho2
      clear hO ho1 ho1' hrun2 hg2 hR2 hown2 hgood2 hb3 hb4 hR3 hbw3 hbw4
      have hbf : Below w.heap.size w w5 := hb.trans (hb5.mono hb.size)
      have hRl : RowsAt w5 w5.heap.size 10 A l.length (fun i => (l.getD i default).cells) := (hRl0.below hb5 (Nat.le_refl _)).more hb5.size
      have hRO : RowsAt w5 w5.heap.size 10 (some ⟨g2, 0, none⟩) (k + 1 + l2.length) (fun i => (O.getD i default).cells) := by
        have h := OwnSmp.rows (w := w5) (l := O) ho2
        rw [hOl] at h
        exact h
      have hOc : k + 1 + l2.length ≤ cap2' := by obtain ⟨_, _, hs, hc⟩ := Own.shape ho2; rw [hOl] at hs hc; injection hs with _ _ hs; omega
      refine (weights40 a4 a5 a6 a7 w5 b4 b5 b6 b7).mono ?_
      rintro e w6 ⟨rfl, rfl⟩
      have gw := heap_alloc_new w5 (.cells (([⟨1, 1 + a4 % 20, 1 + a5 % 20⟩, ⟨2, 1 + a6 % 20, 1 + a7 % 20⟩] : List Wt).flatMap Wt.cells).toArray 42)
      change (w5.alloc (.cells #[.int .i64 1, .int .i64 (1 + a4 % 20), .int .i64 (1 + a5 % 20), .int .i64 2, .int .i64 (1 + a6 % 20), .int .i64 (1 + a7 % 20)] 42)).heap[w5.heap.size]? = _ at gw
      have hbW : Below w5.heap.size w5 (w5.alloc (.cells #[.int .i64 1, .int .i64 (1 + a4 % 20), .int .i64 (1 + a5 % 20), .int .i64 2, .int .i64 (1 + a6 % 20), .int .i64 (1 + a7 % 20)] 42)) := (Below.refl _ _).alloc (Nat.le_refl _) _
      generalize w5.alloc (.cells #[.int .i64 1, .int .i64 (1 + a4 % 20), .int .i64 (1 + a5 % 20), .int .i64 2, .int .i64 (1 + a6 % 20), .int .i64 (1 + a7 % 20)] 42) = w6 at *
      obtain ⟨gW, hgW⟩ : ∃ gW : Nat → Wt, (fun i => ([⟨1, 1 + a4 % 20, 1 + a5 % 20⟩, ⟨2, 1 + a6 % 20, 1 + a7 % 20⟩] : List Wt).getD i default) = gW := ⟨_, rfl⟩
      have hfind : ∀ v : Int, v = 1 ∨ v = 2 → ∃ x, findW gW v 2 = some x ∧ 1 ≤ x.con ∧ x.con ≤ 10000 ∧ 1 ≤ x.tre ∧ x.tre ≤ 10000 := fun v hv => by
        rw [← hgW]
        rcases hv with rfl | rfl
        · exact ⟨⟨1, 1 + a4 % 20, 1 + a5 % 20⟩, by simp [findW], by dsimp only; omega, by dsimp only; omega, by dsimp only; omega, by dsimp only; omega⟩
        · exact ⟨⟨2, 1 + a6 % 20, 1 + a7 % 20⟩, by simp [findW], by dsimp only; omega, by dsimp only; omega, by dsimp only; omega, by dsimp only; omega⟩
      have hW : RowsAt w6 w6.heap.size 3 (some ⟨w5.heap.size, 0, none⟩) 2 (fun i => (gW i).cells) := by
        rw [← hgW]
        exact rows_of_flat Wt.len default gw
      clear gw hgW
      have hXl := made_all (g := gW) (m := 2) (adj := true) hgood (by omega : (1 : Int) ≤ 90 ∧ (90 : Int) ≤ 1048576) hfind l.length (Nat.le_refl _)
      have hYl := made_all (g := gW) (m := 2) (adj := true) hOm (by omega : (1 : Int) ≤ 90 ∧ (90 : Int) ≤ 1048576) hfind O.length (Nat.le_refl _)
      have hX1 := made_all (g := gW) (m := 2) (adj := true) hgood (by omega : (1 : Int) ≤ 90 ∧ (90 : Int) ≤ 1048576) hfind (k + 1) (by omega)
      have hcg := allR_congr (f := fun i => O.getD i default) (f' := fun i => l.getD i default) (n := O.length) (n' := l.length) (g := gW) (m := 2) (cap := 90) (adj := true) (k + 1) (by omega) (by omega) (fun i hi => hOf i hi)
      have hpre : ∀ i, i < k + 1 → (allR (fun i => O.getD i default) O.length gW 2 90 true O.length)[i]? = (allR (fun i => l.getD i default) l.length gW 2 90 true l.length)[i]? := fun i hi => by
        have h1 := (allR_pre (f := fun i => O.getD i default) (n := O.length) (g := gW) (m := 2) (cap := 90) (adj := true) i (k + 1) (O.length - (k + 1))).2
        have h2 := (allR_pre (f := fun i => l.getD i default) (n := l.length) (g := gW) (m := 2) (cap := 90) (adj := true) i (k + 1) (l.length - (k + 1))).2
        rw [show k + 1 + (O.length - (k + 1)) = O.length by omega, hcg, hX1] at h1
        rw [show k + 1 + (l.length - (k + 1)) = l.length by omega, hX1] at h2
        rw [h1 hi, h2 hi]
      rw [hOl] at hYl hpre
      have hin1 := Smp.made_in (by omega) hgood
      have hin2 := Smp.made_in (by omega) hOm
      rw [hOl] at hin2
      generalize hXe : allR (fun i => l.getD i default) l.length gW 2 90 true l.length = X at *
      generalize hYe : allR (fun i => O.getD i default) (k + 1 + l2.length) gW 2 90 true (k + 1 + l2.length) = Y at *
      have HXe := Lib.hid hXe
      have HYe := Lib.hid hYe
      clear hcg hX1 hXe hYe
      have hRl6 := (hRl.below hbW (Nat.le_refl _)).more hbW.size
      have hRO6 := (hRO.below hbW (Nat.le_refl _)).more hbW.size
      have hbf6 := below_trans' hbf hbf.size hbW
      generalize w5.heap.size = G at *
      go_wp2_with fail
      refine (all42 A l.length cp (fun i => l.getD i default) _ 2 2 gW 90 true w6 (by omega) hcp (by omega) hRl6 hin1 hW).mono ?_
      rintro e w7 ⟨vx, rfl, hox, hb7⟩
      rw [HXe.out] at hox
      obtain ⟨AX, cX, rfl, hcX⟩ := Own.shape hox
      have hRX := Own.rows (c := Scr.cells) (fun _ => rfl) ⟨0, 0, 0⟩ hox
      rw [hXl] at hRX hcX ⊢
      replace hRl6 := (hRl6.below hb7 (Nat.le_refl _)).more hb7.size
      replace hRO6 := (hRO6.below hb7 (Nat.le_refl _)).more hb7.size
      replace hW := (hW.below hb7 (Nat.le_refl _)).more hb7.size
      replace hbf6 := below_trans' hbf6 hbf6.size hb7
      clear hox hb7
      go_wp2_with fail
      refine (all42 (some ⟨g2, 0, none⟩) (k + 1 + l2.length) cap2' (fun i => O.getD i default) _ 2 2 gW 90 true w7 (by omega) hOc (by omega) hRO6 hin2 hW).mono ?_
      rintro e w8 ⟨vy, rfl, hoy, hb8⟩
      rw [HYe.out] at hoy
      obtain ⟨AY, cY, rfl, hcY⟩ := Own.shape hoy
      have hRY := Own.rows (c := Scr.cells) (fun _ => rfl) ⟨0, 0, 0⟩ hoy
      rw [hYl] at hRY hcY ⊢
      replace hRl6 := (hRl6.below hb8 (Nat.le_refl _)).more hb8.size
      replace hRX := (hRX.below hb8 (Nat.le_refl _)).more hb8.size
      replace hbf6 := below_trans' hbf6 hbf6.size hb8
      clear hoy hb8 hRO6 hW hRl hRO hbW hbf hRl0 hR4 hb5 hb
      go_upto_region 12 with fail
      have hsame : ∀ wq : World, RowsAt wq wq.heap.size 3 AX l.length (fun i => (X.getD i ⟨0, 0, 0⟩).cells) → RowsAt wq wq.heap.size 3 AY (k + 1 + l2.length) (fun i => (Y.getD i ⟨0, 0, 0⟩).cells) → Calls Try.prog 41 #[.slice AX (k + 1) cX, .slice AY (k + 1) cY] wq fun e w' => e = .returned (.bool true) ∧ Below wq.heap.size wq w' := fun wq h1 h2 =>
        same41 AX AY (k + 1) cX cY (fun i => X.getD i ⟨0, 0, 0⟩) wq (by omega) (fun _ => by
          obtain ⟨b, off, hA, hb, hc⟩ := h1 (by omega)
          exact ⟨b, off, hA, hb, fun i hi => hc i (by omega)⟩) (fun _ => by
          obtain ⟨b, off, hA, hb, hc⟩ := h2 (by omega)
          refine ⟨b, off, hA, hb, fun i hi j u hu => hc i (by omega) j u ?_⟩
          have e : Y.getD i ⟨0, 0, 0⟩ = X.getD i ⟨0, 0, 0⟩ := by rw [List.getD_eq_getElem?_getD, hpre i hi, ← List.getD_eq_getElem?_getD]
          show ((Y.getD i ⟨0, 0, 0⟩).cells)[j]? = some u
          rw [e]
          exact hu)
      have HS := Lib.hid hsame
      clear hsame hpre hXl hYl
      refine wp_region_late (R := LeW) 21 124 [] (by kernel_rfl) (by kernel_rfl) (by kernel_rfl) rfl LeW.refl (fun _ _ _ => LeW.trans) ?_
      simp only [Late, List.take_succ_cons, List.drop_succ_cons, List.take_zero, List.drop_zero]
      repeat (go_big_quiet_step (fail))
      refine wpQuiet_nil ?_
      intro x
      simp only [allGens]
      have h8x : Below w8.heap.size w8 x.w := Below.trans (Below.refl _ w8).drew x.h
      replace hRX := (hRX.below h8x (Nat.le_refl _)).more h8x.size
      replace hRY := (hRY.below h8x (Nat.le_refl _)).more h8x.size
      replace hRl6 := (hRl6.below h8x (Nat.le_refl _)).more h8x.size
      replace hbf6 := below_trans' hbf6 hbf6.size h8x
      clear h8x
      generalize x.w = w9 at *
      go_wp2_with fail
      refine (HS.out w9 hRX hRY).mono ?_
      rintro e w10 ⟨rfl, hb10⟩
      replace hRl6 := (hRl6.below hb10 (Nat.le_refl _)).more hb10.size
      replace hbf6 := below_trans' hbf6 hbf6.size hb10
      clear hb10 hRX hRY HS
      -- changed: a copy
      have gE := heap_alloc_new w10 (.cells #[] 34)
      have hbE : Below w10.heap.size w10 (w10.alloc (.cells #[] 34)) := (Below.refl _ _).alloc (Nat.le_refl _) _
      have hRE := (hRl6.below hbE (Nat.le_refl _)).more hbE.size
      obtain ⟨v4, w11, hrun4, ho4, hg4, g4, cap4', hv4⟩ := append_run Smp.cells 10 96 34 25 _ i0 Smp.len smp_one Try.underlying25 hi hz0 hz1 hz2 rfl (by omega) (w10.alloc (.cells #[] 34)) w10.heap.size (.slice (some ⟨w10.heap.size, 0, none⟩) 0 0) [] (own_empty gE (Nat.le_refl _)) ⟨_, _, rfl⟩ A l.length cp (fun i => l.getD i default) (by omega) (by simp) (by omega) (by simp) hRE
      have hb11 : Below w10.heap.size w10 w11 := hbE.grown hg4 hbE.size (fun q hq => by simp [Value.ownBlock] at hq; omega)
      subst hv4
      simp only [List.length_nil, Nat.zero_add, List.nil_append] at ho4 hrun4
      obtain ⟨C, hC⟩ : ∃ C, ((List.range l.length).map fun i => l.getD i default) = C := ⟨_, rfl⟩
      have hCl : C.length = l.length := by rw [← hC]; simp
      have hCg : ∀ i, i < l.length → C.getD i default = l.getD i default := fun i hi => by rw [← hC, getD_map_range hi]
      have hCm : ∀ s ∈ C, Smp.made 90 s := fun s hs => by rw [← hC] at hs; exact made_range hgood (Nat.le_refl _) s hs
      rw [hC] at ho4
      clear hC
      have hmk := hCm (C.getD k default) (by rw [List.getD_eq_getElem?_getD, List.getElem?_eq_getElem (by omega)]; simp)
      obtain ⟨hma, hmv, hmy0, hmy1, hmb0, hmb1⟩ := hmk
      obtain ⟨s1, hs1⟩ : ∃ s1 : Smp, { C.getD k default with value := a3 % 91 } = s1 := ⟨_, rfl⟩
      have hst1 := own_setS ho4 (by omega) k (by omega) s1 6 (.int .i64 (a3 % 91)) (by omega) (by rw [← hs1]; rfl)
      have hC1l : (C.set k s1).length = l.length := by rw [List.length_set]; exact hCl
      have hC1k : (C.set k s1).getD k default = s1 := by rw [List.getD_eq_getElem?_getD, List.getElem?_set_self (by omega)]; rfl
      have hst2 := own_setS hst1.1 (by omega) k (by omega) { s1 with arm := 3 - s1.arm } 4 (.int .i64 (3 - s1.arm)) (by omega) (by rw [hC1k]; rfl)
      obtain ⟨gq, cq, cur, hvq, hgB, hblk, hcq⟩ := own_some ho4 (by omega)
      have hgq : gq = g4 := by injection hvq with h1; injection h1 with h1; injection h1 with h1; exact h1.symm
      subst hgq
      have hRC := OwnSmp.rows (w := w11) (l := C) (by rw [← hCl] at ho4; exact ho4)
      obtain ⟨bq, oq, hA, hbq, hc⟩ := hRC (by omega)
      cases hA
      have c6 := hc k (by omega) 6 _ rfl
      have c4 := hc k (by omega) 4 _ rfl
      have hsa : (C.getD k default).arm = s1.arm := by rw [← hs1]
      rw [hsa] at c4
      simp only [Nat.zero_add] at c6 c4
      have z6 := free_of_block hblk (k * 10 + 6)
      have z4 := free_of_block hblk (k * 10 + 4)
      have hs1m : (s1.arm = 1 ∨ s1.arm = 2) ∧ s1.before = (l.getD k default).before ∧ (s1.version = 1 ∨ s1.version = 2) ∧ s1.value = a3 % 91 ∧ 0 ≤ s1.before ∧ s1.before ≤ 4 := by
        rw [← hs1]
        exact ⟨hma, by rw [hCg k hkl], hmv, rfl, hmb0, hmb1⟩
      obtain ⟨s2, hs2⟩ : ∃ s2 : Smp, { s1 with arm := 3 - s1.arm } = s2 := ⟨_, rfl⟩
      rw [hs2] at hst2
      have hs2m : Smp.made 90 s2 ∧ s2.before = (l.getD k default).before := by
        rw [← hs2]
        obtain ⟨h1, h2, h3, h4, h5, h6⟩ := hs1m
        exact ⟨⟨by dsimp only; omega, h3, by dsimp only; omega, by dsimp only; omega, h5, h6⟩, h2⟩
      obtain ⟨F, hF⟩ : ∃ F, (C.set k s1).set k s2 = F := ⟨_, rfl⟩
      rw [hF] at hst2
      have hFl : F.length = l.length := by rw [← hF, List.length_set]; exact hC1l
      have hFg : ∀ i, i < l.length → i ≠ k → F.getD i default = l.getD i default := fun i hi hne => by
        rw [← hF, List.set_set, List.getD_eq_getElem?_getD, List.getElem?_set_ne (Ne.symm hne), ← List.getD_eq_getElem?_getD, hCg i hi]
      have hFk : F.getD k default = s2 := by rw [← hF, List.getD_eq_getElem?_getD, List.getElem?_set_self (by rw [hC1l]; exact hkl)]; rfl
      have hFm : ∀ s ∈ F, Smp.made 90 s := fun s hs => by
        rw [← hF, List.set_set] at hs
        rcases List.mem_or_eq_of_mem_set hs with h | h
        · exact hCm s h
        · rw [h]; exact hs2m.1
      have hinF := Smp.made_in (by omega) hFm
      have hpr : ∀ arm, predT (fun i => F.getD i default) l.length k arm 90 = predT (fun i => l.getD i default) l.length k arm 90 := fun arm => by
        unfold predT
        rw [if_pos (show (0 : Int) ≤ (k : Int) ∧ (k : Int) < l.length by omega), if_pos (show (0 : Int) ≤ (k : Int) ∧ (k : Int) < l.length by omega)]
        simp only [Int.toNat_natCast]
        exact predI_congr (by (try dsimp only); rw [hFk]; exact hs2m.2) fun i hi => hFg i (by omega) (by omega)
      have ho5 := hst2.1
      have hb12 : Below w10.heap.size w10 ((w11.setCell ⟨gq, k * 10 + 6, none⟩ (.int .i64 (a3 % 91))).setCell ⟨gq, k * 10 + 4, none⟩ (.int .i64 (3 - s1.arm))) := (hb11.setCell hgB _).setCell hgB _
      have harm := hs1m.1
      clear hst1 hst2 hg4 hgood hOm hOf hin2 hs1 hs2 hF hFg hFk hFm hCm hCg hma hmv hC1k hRC hc hsa hRE hbE gE hb11 hblk hcq hvq
      go_wp2_with (at_builtin; refine wpList_append_eq (by rfl) (.tmp 89) (.tmp 90) 25 (by rfl) _ _ (by rfl) (by rfl) hrun4 ?_)
      have hRs := (hRl6.below hb12 (Nat.le_refl _)).more hb12.size
      have hRF := OwnSmp.rows (l := F) (by rw [← hFl] at ho5; exact ho5)
      rw [hFl] at hRF hinF
      have hfin := below_trans' hbf6 hbf6.size hb12
      have hcF : l.length ≤ cap4' := by obtain ⟨_, _, hs, hc⟩ := Own.shape ho5; rw [hFl] at hs hc; injection hs with _ _ hs; omega
      have HPR := Lib.hid hpr
      clear hpr ho5 hb12 c6 c4 z6 z4 hrun4 ho4 hbf6 hRl6
      generalize (w11.setCell ⟨gq, k * 10 + 6, none⟩ (.int .i64 (a3 % 91))).setCell ⟨gq, k * 10 + 4, none⟩ (.int .i64 (3 - s1.arm)) = w13 at *
      go_loopg [24] 2 (fun m i wr => ∃ q : Nat, 1 ≤ q ∧ q ≤ 3 ∧ m = 3 - q ∧ i = .int .i64 q ∧ Below w13.heap.size w13 wr)
      case atStart => exact ⟨1, by omega, by omega, by omega, rfl, Below.refl _ _⟩
      case round =>
        obtain ⟨q, hq1', hq2, hmq, rfl, hbr⟩ := hrel
        have HMQ := Lib.hid hmq
        clear hmq
        by_cases hq3 : q ≤ 2
        · have hdq : decide ((q : Int) ≤ 2) = true := by simp; omega
          have hRa := (hRs.below hbr (Nat.le_refl _)).more hbr.size
          have hRb := (hRF.below hbr (Nat.le_refl _)).more hbr.size
          obtain ⟨pv, hpv⟩ : ∃ pv, predT (fun i => l.getD i default) l.length k q 90 = pv := ⟨_, rfl⟩
          have h2 := HPR.out q
          rw [hpv] at h2
          have HP1 := Lib.hid hpv
          have HP2 := Lib.hid h2
          clear hpv h2
          go_wp2_with fail
          refine (predict34 A l.length cp (fun i => l.getD i default) k q 90 wr (by omega) hcp hRa hin1 (by omega) (by omega)).mono ?_
          rintro e wa ⟨rfl, hba⟩
          rw [HP1.out]
          replace hRb := (hRb.below hba (Nat.le_refl _)).more hba.size
          replace hbr := below_trans' hbr hbr.size hba
          clear hba hRa
          go_wp2_with fail
          refine (predict34 (some ⟨gq, 0, none⟩) l.length cap4' (fun i => F.getD i default) k q 90 wa (by omega) hcF hRb hinF (by omega) (by omega)).mono ?_
          rintro e wb ⟨rfl, hba⟩
          rw [HP2.out]
          replace hbr := below_trans' hbr hbr.size hba
          clear hba hRb
          go_wp2_with fail
          go_roundg (3 - (q + 1))
          case measure => have := HMQ.out; omega
          case rel => exact ⟨q + 1, by omega, by omega, rfl, by go_num, hbr⟩
        · have hdq : decide ((q : Int) ≤ 2) = false := by simp; omega
          go_wp2_with fail
          go_ret
          exact ⟨rfl, hfin.trans (hbr.mono hfin.size)⟩
end Go.Proofs.Ytgonighpjpfmnaa
