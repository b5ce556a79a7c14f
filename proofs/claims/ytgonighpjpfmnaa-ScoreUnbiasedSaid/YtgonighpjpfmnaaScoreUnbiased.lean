/- The walk of flagstonelaw39.ScoreUnbiased. -/
import Derived.Test.YtgonighpjpfmnaaLate4
import Derived.Test.YtgonighpjpfmnaaUnb0
namespace Go.Proofs.Ytgonighpjpfmnaa
open Go.RowKit

set_option maxRecDepth 100000 in
set_option maxHeartbeats 1500000 in
theorem scoreUnbiased7 (a0 : Option Addr) (len0 cap0 : Nat) (z0 : List Int) (a1 a2 a3 a4 : Int) (a5 : Bool) (w : World) (w0 : IsRow .u8 w a0 len0 cap0 z0) (w1 : (Lit.int .u8 a1).wf = true) (w2 : (Lit.int .u8 a2).wf = true) (w3 : (Lit.int .u16 a3).wf = true) (w4 : (Lit.int .u16 a4).wf = true) :
    Calls Try.prog 7 #[.slice a0 len0 cap0, .int .u8 a1, .int .u8 a2, .int .u16 a3, .int .u16 a4, .bool a5] w fun e w' => e = .returned (.bool true) ∧ Below w.heap.size w w' := by
  have b1 := bounds_u8 w1
  have b2 := bounds_u8 w2
  have b3 := bounds_u16 w3
  have b4 := bounds_u16 w4
  have hB0 := w0.bytes
  obtain ⟨i0, hi, hz0, hz1, hz2⟩ := info_parts info34
  clear w0 w1 w2 w3 w4
  by_cases hlen : 200 < len0
  · go_enter Try.func7, Try.ntmps7
    go_wp2_with (go_at_call 30; refine (awake30 _).mono ?_; rintro e w' ⟨rfl, hb⟩)
    go_ret
    exact ⟨rfl, hb⟩
  · obtain ⟨c, hc⟩ : ∃ c, 1 + a3 % 10000 = c := ⟨_, rfl⟩
    obtain ⟨t, ht⟩ : ∃ t, 1 + a4 % 10000 = t := ⟨_, rfl⟩
    obtain ⟨bb, hbb⟩ : ∃ bb, a2 % 5 = bb := ⟨_, rfl⟩
    have hcb : 1 ≤ c ∧ c ≤ 10000 := by omega
    have htb : 1 ≤ t ∧ t ≤ 10000 := by omega
    have hbbb : 0 ≤ bb ∧ bb ≤ 4 := by omega
    go_enter Try.func7, Try.ntmps7
    go_wp2_with fail
    refine (awake30 w).mono ?_
    rintro e w1 ⟨rfl, hb1⟩
    go_wp2_with fail
    refine (samples31 a0 len0 cap0 255 w1 (by omega) (by omega) (by omega) ((hB0.kept hb1 (Nat.le_refl _)).more' hb1.size)).mono ?_
    rintro e w2 ⟨v, l, rfl, hl, hgood, hown, hb2⟩
    obtain ⟨A, cp, rfl, hcp⟩ := Own.shape hown
    have hR := OwnSmp.rows hown
    have hb := below_trans' hb1 hb1.size hb2
    clear hown hb1 hb2 hB0
    go_upto_region 11 with fail
    have hbW : Below w2.heap.size w2 (((w2.alloc (.cells #[.string ⟨#[]⟩, .string ⟨#[]⟩, .int .i64 0, .int .i64 0, .int .i64 1, .int .i64 0, .int .i64 a1, .int .i64 0, .int .i64 bb, .bool false] 34)).alloc (.cells #[.string ⟨#[]⟩, .string ⟨#[]⟩, .int .i64 0, .int .i64 0, .int .i64 2, .int .i64 0, .int .i64 a2, .int .i64 0, .int .i64 bb, .bool false] 34)).alloc (.cells #[.int .i64 0, .int .i64 c, .int .i64 t] 42)) := (((Below.refl _ _).alloc (Nat.le_refl _) _).alloc (by simp) _).alloc (by simp; omega) _
    have gx : (((w2.alloc (.cells #[.string ⟨#[]⟩, .string ⟨#[]⟩, .int .i64 0, .int .i64 0, .int .i64 1, .int .i64 0, .int .i64 a1, .int .i64 0, .int .i64 bb, .bool false] 34)).alloc (.cells #[.string ⟨#[]⟩, .string ⟨#[]⟩, .int .i64 0, .int .i64 0, .int .i64 2, .int .i64 0, .int .i64 a2, .int .i64 0, .int .i64 bb, .bool false] 34)).alloc (.cells #[.int .i64 0, .int .i64 c, .int .i64 t] 42)).heap[w2.heap.size]? = some (.cells (uS 1 a1 bb).cells.toArray 34 (0, 0)) := by
      rw [Below.heap_alloc _ _ _ (by simp; omega), Below.heap_alloc _ _ _ (by simp)]; exact heap_alloc_new w2 _
    have gy : (((w2.alloc (.cells #[.string ⟨#[]⟩, .string ⟨#[]⟩, .int .i64 0, .int .i64 0, .int .i64 1, .int .i64 0, .int .i64 a1, .int .i64 0, .int .i64 bb, .bool false] 34)).alloc (.cells #[.string ⟨#[]⟩, .string ⟨#[]⟩, .int .i64 0, .int .i64 0, .int .i64 2, .int .i64 0, .int .i64 a2, .int .i64 0, .int .i64 bb, .bool false] 34)).alloc (.cells #[.int .i64 0, .int .i64 c, .int .i64 t] 42)).heap[w2.heap.size + 1]? = some (.cells (uS 2 a2 bb).cells.toArray 34 (0, 0)) := by
      rw [Below.heap_alloc _ _ _ (by simp)]
      have h := heap_alloc_new (w2.alloc (.cells #[.string ⟨#[]⟩, .string ⟨#[]⟩, .int .i64 0, .int .i64 0, .int .i64 1, .int .i64 0, .int .i64 a1, .int .i64 0, .int .i64 bb, .bool false] 34)) (.cells #[.string ⟨#[]⟩, .string ⟨#[]⟩, .int .i64 0, .int .i64 0, .int .i64 2, .int .i64 0, .int .i64 a2, .int .i64 0, .int .i64 bb, .bool false] 34)
      rw [show (w2.alloc (.cells #[.string ⟨#[]⟩, .string ⟨#[]⟩, .int .i64 0, .int .i64 0, .int .i64 1, .int .i64 0, .int .i64 a1, .int .i64 0, .int .i64 bb, .bool false] 34)).heap.size = w2.heap.size + 1 by simp] at h
      exact h
    have gc : (((w2.alloc (.cells #[.string ⟨#[]⟩, .string ⟨#[]⟩, .int .i64 0, .int .i64 0, .int .i64 1, .int .i64 0, .int .i64 a1, .int .i64 0, .int .i64 bb, .bool false] 34)).alloc (.cells #[.string ⟨#[]⟩, .string ⟨#[]⟩, .int .i64 0, .int .i64 0, .int .i64 2, .int .i64 0, .int .i64 a2, .int .i64 0, .int .i64 bb, .bool false] 34)).alloc (.cells #[.int .i64 0, .int .i64 c, .int .i64 t] 42)).heap[w2.heap.size + 1 + 1]? = some (.cells #[.int .i64 0, .int .i64 c, .int .i64 t] 42 (0, 0)) := by
      have h := heap_alloc_new ((w2.alloc (.cells #[.string ⟨#[]⟩, .string ⟨#[]⟩, .int .i64 0, .int .i64 0, .int .i64 1, .int .i64 0, .int .i64 a1, .int .i64 0, .int .i64 bb, .bool false] 34)).alloc (.cells #[.string ⟨#[]⟩, .string ⟨#[]⟩, .int .i64 0, .int .i64 0, .int .i64 2, .int .i64 0, .int .i64 a2, .int .i64 0, .int .i64 bb, .bool false] 34)) (.cells #[.int .i64 0, .int .i64 c, .int .i64 t] 42)
      rw [show ((w2.alloc (.cells #[.string ⟨#[]⟩, .string ⟨#[]⟩, .int .i64 0, .int .i64 0, .int .i64 1, .int .i64 0, .int .i64 a1, .int .i64 0, .int .i64 bb, .bool false] 34)).alloc (.cells #[.string ⟨#[]⟩, .string ⟨#[]⟩, .int .i64 0, .int .i64 0, .int .i64 2, .int .i64 0, .int .i64 a2, .int .i64 0, .int .i64 bb, .bool false] 34)).heap.size = w2.heap.size + 1 + 1 by simp] at h
      exact h
    replace hR := (hR.below hbW (Nat.le_refl _)).more hbW.size
    replace hb := below_trans' hb hb.size hbW
    generalize (((w2.alloc (.cells #[.string ⟨#[]⟩, .string ⟨#[]⟩, .int .i64 0, .int .i64 0, .int .i64 1, .int .i64 0, .int .i64 a1, .int .i64 0, .int .i64 bb, .bool false] 34)).alloc (.cells #[.string ⟨#[]⟩, .string ⟨#[]⟩, .int .i64 0, .int .i64 0, .int .i64 2, .int .i64 0, .int .i64 a2, .int .i64 0, .int .i64 bb, .bool false] 34)).alloc (.cells #[.int .i64 0, .int .i64 c, .int .i64 t] 42)) = w3 at *
    generalize hGx : w2.heap.size = Gx at *
    generalize hGy : Gx + 1 = Gy at *
    generalize hGc : Gy + 1 = Gc at *
    clear hbW hGx hGy hGc
    obtain ⟨X1, X2, U, RG, he1, he2, hU, hlaw, hv1, hv2⟩ := two_scores (l := l) (c := c) (t := t) (y := a1) (z := a2) (b := bb) (cap := 255) (adj := a5) hgood (by omega) (by omega) hcb htb (by omega)
    have hs1 := snoc_in (x := uS 1 a1 bb) hgood (by omega) (by simp only [uS]; omega) (by simp only [uS]; omega)
    have hs2 := snoc_in (x := uS 2 a2 bb) hgood (by omega) (by simp only [uS]; omega) (by simp only [uS]; omega)
    have HE1 := Lib.hid he1
    have HE2 := Lib.hid he2
    have HS1 := Lib.hid hs1
    have HS2 := Lib.hid hs2
    have HLAW := Lib.hid hlaw
    have HUU := Lib.hid hU
    clear he1 he2 hs1 hs2 hlaw hU
    have hle : ∀ z : Beh (RK w3.heap.size l (uS 1 a1 bb)) w3.drew, Below w3.heap.size w3 z.w := fun z => Below.trans (Below.refl _ w3).drew z.h.1
    have hsz : ∀ z : Beh (RK w3.heap.size l (uS 1 a1 bb)) w3.drew, w3.heap.size ≤ z.w.heap.size := fun z => (hle z).size
    have zz : ∀ z : Beh (RK w3.heap.size l (uS 1 a1 bb)) w3.drew, z.w.heap[Gx]? = some (.cells (uS 1 a1 bb).cells.toArray 34 (0, 0)) := fun z => ((hle z).block _ (lt_of_blk gx)).trans gx
    have q0 : ∀ z : Beh (RK w3.heap.size l (uS 1 a1 bb)) w3.drew, z.w.cell? ⟨Gx, 0, none⟩ = some (.string ⟨#[]⟩) := fun z => cell_of_block (zz z) 0
    have q1 : ∀ z : Beh (RK w3.heap.size l (uS 1 a1 bb)) w3.drew, z.w.cell? ⟨Gx, 1, none⟩ = some (.string ⟨#[]⟩) := fun z => cell_of_block (zz z) 1
    have q2 : ∀ z : Beh (RK w3.heap.size l (uS 1 a1 bb)) w3.drew, z.w.cell? ⟨Gx, 2, none⟩ = some (.int .i64 0) := fun z => cell_of_block (zz z) 2
    have q3 : ∀ z : Beh (RK w3.heap.size l (uS 1 a1 bb)) w3.drew, z.w.cell? ⟨Gx, 3, none⟩ = some (.int .i64 0) := fun z => cell_of_block (zz z) 3
    have q4 : ∀ z : Beh (RK w3.heap.size l (uS 1 a1 bb)) w3.drew, z.w.cell? ⟨Gx, 4, none⟩ = some (.int .i64 1) := fun z => cell_of_block (zz z) 4
    have q5 : ∀ z : Beh (RK w3.heap.size l (uS 1 a1 bb)) w3.drew, z.w.cell? ⟨Gx, 5, none⟩ = some (.int .i64 0) := fun z => cell_of_block (zz z) 5
    have q6 : ∀ z : Beh (RK w3.heap.size l (uS 1 a1 bb)) w3.drew, z.w.cell? ⟨Gx, 6, none⟩ = some (.int .i64 a1) := fun z => cell_of_block (zz z) 6
    have q7 : ∀ z : Beh (RK w3.heap.size l (uS 1 a1 bb)) w3.drew, z.w.cell? ⟨Gx, 7, none⟩ = some (.int .i64 0) := fun z => cell_of_block (zz z) 7
    have q8 : ∀ z : Beh (RK w3.heap.size l (uS 1 a1 bb)) w3.drew, z.w.cell? ⟨Gx, 8, none⟩ = some (.int .i64 bb) := fun z => cell_of_block (zz z) 8
    have q9 : ∀ z : Beh (RK w3.heap.size l (uS 1 a1 bb)) w3.drew, z.w.cell? ⟨Gx, 9, none⟩ = some (.bool false) := fun z => cell_of_block (zz z) 9
    have zc : ∀ z : Beh (RK w3.heap.size l (uS 1 a1 bb)) w3.drew, z.w.heap[Gc]? = some (.cells #[.int .i64 0, .int .i64 c, .int .i64 t] 42 (0, 0)) := fun z => ((hle z).block _ (lt_of_blk gc)).trans gc
    have r0 : ∀ z : Beh (RK w3.heap.size l (uS 1 a1 bb)) w3.drew, z.w.cell? ⟨Gc, 0, none⟩ = some (.int .i64 0) := fun z => cell_of_block (zc z) 0
    have r1 : ∀ z : Beh (RK w3.heap.size l (uS 1 a1 bb)) w3.drew, z.w.cell? ⟨Gc, 1, none⟩ = some (.int .i64 c) := fun z => cell_of_block (zc z) 1
    have r2 : ∀ z : Beh (RK w3.heap.size l (uS 1 a1 bb)) w3.drew, z.w.cell? ⟨Gc, 2, none⟩ = some (.int .i64 t) := fun z => cell_of_block (zc z) 2
    have hRz : ∀ z : Beh (RK w3.heap.size l (uS 1 a1 bb)) w3.drew, RowsAt z.w z.w.heap.size 10 A l.length (fun i => (l.getD i default).cells) := fun z => (hR.below (hle z) (Nat.le_refl _)).more (hsz z)
    refine wp_region_loose (R := RK w3.heap.size l (uS 1 a1 bb)) 14 144 [12] [(0, [], some (freshS w3.heap.size #[] 34 0)), (2, [59], some (P61 w3.heap.size l)), (4, [], some (freshS w3.heap.size (uS 1 a1 bb).cells.toArray 34 1)), (5, [61, 63], some (P64 w3.heap.size l (uS 1 a1 bb))), (9, [64], none), (13, [], some (fresh w3.heap.size #[.int .i64 0, .int .i64 0, .int .i64 0] 37))] (by kernel_rfl) (by kernel_rfl) (by kernel_rfl) (by kernel_rfl) (fun _ _ _ _ _ _ h => h) rfl (RK.refl _ _ _) (fun _ _ _ => RK.trans _ _ _) ?_
    simp only [Late, List.take_succ_cons, List.drop_succ_cons, List.take_zero, List.drop_zero, Nat.reduceSub, Nat.reduceAdd, Nat.sub_zero]
    refine wpQuiet_nil ?_
    refine late_buildR (fun w => by kernel_rfl) (fun z => RK.of_le _ _ _ (hsz z) ((Below.refl _ _).alloc (Nat.le_refl _) _)) (fun v _ _ h => h.2.1 v) hsz (by simp only [Act.put, List.setIfInBounds_toArray, List.set_cons_succ, List.set_cons_zero]; rfl) ?_
    repeat (go_big_quiet_step (rfl))
    refine wpQuiet_nil ?_
    refine late_app1 (c2 := .slice A l.length cp) (fun v _ _ h => h.2.2.1 v) (fun _ => rfl) (fun z v59 h59 => empty_append _ l (uS 1 a1 bb) (hsz z) (by omega) h59 A cp (hRz z)) (by simp only [Act.put, List.setIfInBounds_toArray, List.set_cons_succ, List.set_cons_zero]; rfl) ?_
    repeat (go_big_quiet_step (rfl))
    refine wpQuiet_nil ?_
    refine late_buildR (fun w => by kernel_rfl) (fun z => RK.of_le _ _ _ (hsz z) ((Below.refl _ _).alloc (Nat.le_refl _) _)) (fun v _ _ h => h.2.2.2.1 v) hsz (by simp only [Act.put, List.setIfInBounds_toArray, List.set_cons_succ, List.set_cons_zero]; rfl) ?_
    refine wpQuiet_nil ?_
    refine late_app2 (by decide) (fun v _ _ h => h.2.2.2.2.1 v) (fun _ _ => rfl) (fun z v61 v63 h61 h63 => append_keeps _ l (uS 1 a1 bb) (hsz z) (by omega) h61 h63) (by simp only [Act.put, List.setIfInBounds_toArray, List.set_cons_succ, List.set_cons_zero]; rfl) ?_
    repeat (go_big_quiet_step (rfl))
    refine wpQuiet_nil ?_
    refine late_callg (args := [.tmp 64, .tmp 65, .tmp 66, .const (.int .i64 255), .tmp 67]) (rest := [.int .i64 l.length, .agg #[.int .i64 0, .int .i64 c, .int .i64 t], .int .i64 255, .bool a5]) (c := .tuple #[.agg #[.int .i64 X1, .int .i64 U, .int .i64 RG], .bool true]) Try.func38 (by kernel_rfl) (by kernel_rfl) (by decide) (by decide) (by decide) (fun _ => rfl) (fun z v h64 => by
        obtain ⟨ho, g, cap, rfl⟩ := h64
        have hlen : (l ++ [uS 1 a1 bb]).length = l.length + 1 := by simp
        have hr := OwnSmp.rows (l := l ++ [uS 1 a1 bb]) ho
        rw [hlen] at hr
        have hcp2 : l.length + 1 ≤ cap := by obtain ⟨_, _, hs, hc⟩ := Own.shape ho; rw [hlen] at hs hc; injection hs with _ _ hs; omega
        refine (of38 (some ⟨g, 0, none⟩) (l.length + 1) cap (fun i => (l ++ [uS 1 a1 bb]).getD i default) l.length 0 c t 255 a5 z.w (by omega) hcp2 hr HS1.out).mono fun e w' h => ?_
        obtain ⟨he, hb⟩ := h.some HE1.out
        exact ⟨he, RK.of_le _ _ _ (hsz z) hb⟩) (by simp only [Act.put, List.setIfInBounds_toArray, List.set_cons_succ, List.set_cons_zero]; rfl) ?_
    repeat (go_big_quiet_step (rfl))
    refine wpQuiet_nil ?_
    refine late_allocR (fun _ _ => by kernel_rfl) (fun z => RK.of_le _ _ _ (hsz z) ((Below.refl _ _).alloc (Nat.le_refl _) _)) (fun v _ _ h => h.2.2.2.2.2 v) hsz (by simp only [Act.put, List.setIfInBounds_toArray, List.set_cons_succ, List.set_cons_zero]; rfl) ?_
    refine wpQuiet_nil ?_
    intro z
    simp only [List.nil_append, List.cons_append, allGens, Option.getD_some]
    rintro v59 _ v61 _ v63 _ v64 _ v20 ⟨g20, rfl, hg20, hb20⟩
    simp only [Act.put, List.setIfInBounds_toArray, List.set_cons_succ, List.set_cons_zero]
    have hlz := hle z
    clear hle hsz zz zc hRz q0 q1 q2 q3 q4 q5 q6 q7 q8 q9 r0 r1 r2
    generalize z.w = w4 at *
    have y0 := cell_of_block hb20 0
    have y1 := cell_of_block hb20 1
    have y2 := cell_of_block hb20 2
    have y3 := free_of_block hb20
    simp only [List.getElem?_toArray, List.getElem?_cons_zero, List.getElem?_cons_succ] at y0 y1 y2
    go_upto_region 12 with fail
    have k20 : (((w4.setCell ⟨g20, 0, none⟩ (.int .i64 X1)).setCell ⟨g20, 1, none⟩ (.int .i64 U)).setCell ⟨g20, 2, none⟩ (.int .i64 RG)).heap[g20]? = some (.cells #[.int .i64 X1, .int .i64 U, .int .i64 RG] 37 (0, 0)) := block_set (block_set (block_set hb20 0 _) 1 _) 2 _
    have hl5 : Below w3.heap.size w3 (((w4.setCell ⟨g20, 0, none⟩ (.int .i64 X1)).setCell ⟨g20, 1, none⟩ (.int .i64 U)).setCell ⟨g20, 2, none⟩ (.int .i64 RG)) := ((hlz.setCell hg20 _).setCell hg20 _).setCell hg20 _
    clear y0 y1 y2 y3 hb20 hlz
    generalize ((w4.setCell ⟨g20, 0, none⟩ (.int .i64 X1)).setCell ⟨g20, 1, none⟩ (.int .i64 U)).setCell ⟨g20, 2, none⟩ (.int .i64 RG) = w5 at *
    have hg20l := lt_of_blk gc
    replace gy := (hl5.block _ (lt_of_blk gy)).trans gy
    replace gc := (hl5.block _ (lt_of_blk gc)).trans gc
    replace hR := (hR.below hl5 (Nat.le_refl _)).more hl5.size
    replace hb := below_trans' hb hb.size hl5
    clear gx hl5 hg20 hg20l
    have hle : ∀ z : Beh (RK w5.heap.size l (uS 2 a2 bb)) w5.drew, Below w5.heap.size w5 z.w := fun z => Below.trans (Below.refl _ w5).drew z.h.1
    have hsz : ∀ z : Beh (RK w5.heap.size l (uS 2 a2 bb)) w5.drew, w5.heap.size ≤ z.w.heap.size := fun z => (hle z).size
    have zz : ∀ z : Beh (RK w5.heap.size l (uS 2 a2 bb)) w5.drew, z.w.heap[Gy]? = some (.cells (uS 2 a2 bb).cells.toArray 34 (0, 0)) := fun z => ((hle z).block _ (lt_of_blk gy)).trans gy
    have q0 : ∀ z : Beh (RK w5.heap.size l (uS 2 a2 bb)) w5.drew, z.w.cell? ⟨Gy, 0, none⟩ = some (.string ⟨#[]⟩) := fun z => cell_of_block (zz z) 0
    have q1 : ∀ z : Beh (RK w5.heap.size l (uS 2 a2 bb)) w5.drew, z.w.cell? ⟨Gy, 1, none⟩ = some (.string ⟨#[]⟩) := fun z => cell_of_block (zz z) 1
    have q2 : ∀ z : Beh (RK w5.heap.size l (uS 2 a2 bb)) w5.drew, z.w.cell? ⟨Gy, 2, none⟩ = some (.int .i64 0) := fun z => cell_of_block (zz z) 2
    have q3 : ∀ z : Beh (RK w5.heap.size l (uS 2 a2 bb)) w5.drew, z.w.cell? ⟨Gy, 3, none⟩ = some (.int .i64 0) := fun z => cell_of_block (zz z) 3
    have q4 : ∀ z : Beh (RK w5.heap.size l (uS 2 a2 bb)) w5.drew, z.w.cell? ⟨Gy, 4, none⟩ = some (.int .i64 2) := fun z => cell_of_block (zz z) 4
    have q5 : ∀ z : Beh (RK w5.heap.size l (uS 2 a2 bb)) w5.drew, z.w.cell? ⟨Gy, 5, none⟩ = some (.int .i64 0) := fun z => cell_of_block (zz z) 5
    have q6 : ∀ z : Beh (RK w5.heap.size l (uS 2 a2 bb)) w5.drew, z.w.cell? ⟨Gy, 6, none⟩ = some (.int .i64 a2) := fun z => cell_of_block (zz z) 6
    have q7 : ∀ z : Beh (RK w5.heap.size l (uS 2 a2 bb)) w5.drew, z.w.cell? ⟨Gy, 7, none⟩ = some (.int .i64 0) := fun z => cell_of_block (zz z) 7
    have q8 : ∀ z : Beh (RK w5.heap.size l (uS 2 a2 bb)) w5.drew, z.w.cell? ⟨Gy, 8, none⟩ = some (.int .i64 bb) := fun z => cell_of_block (zz z) 8
    have q9 : ∀ z : Beh (RK w5.heap.size l (uS 2 a2 bb)) w5.drew, z.w.cell? ⟨Gy, 9, none⟩ = some (.bool false) := fun z => cell_of_block (zz z) 9
    have zc : ∀ z : Beh (RK w5.heap.size l (uS 2 a2 bb)) w5.drew, z.w.heap[Gc]? = some (.cells #[.int .i64 0, .int .i64 c, .int .i64 t] 42 (0, 0)) := fun z => ((hle z).block _ (lt_of_blk gc)).trans gc
    have r0 : ∀ z : Beh (RK w5.heap.size l (uS 2 a2 bb)) w5.drew, z.w.cell? ⟨Gc, 0, none⟩ = some (.int .i64 0) := fun z => cell_of_block (zc z) 0
    have r1 : ∀ z : Beh (RK w5.heap.size l (uS 2 a2 bb)) w5.drew, z.w.cell? ⟨Gc, 1, none⟩ = some (.int .i64 c) := fun z => cell_of_block (zc z) 1
    have r2 : ∀ z : Beh (RK w5.heap.size l (uS 2 a2 bb)) w5.drew, z.w.cell? ⟨Gc, 2, none⟩ = some (.int .i64 t) := fun z => cell_of_block (zc z) 2
    have hRz : ∀ z : Beh (RK w5.heap.size l (uS 2 a2 bb)) w5.drew, RowsAt z.w z.w.heap.size 10 A l.length (fun i => (l.getD i default).cells) := fun z => (hR.below (hle z) (Nat.le_refl _)).more (hsz z)
    refine wp_region_loose (R := RK w5.heap.size l (uS 2 a2 bb)) 14 144 [12] [(0, [], some (freshS w5.heap.size #[] 34 0)), (2, [72], some (P61 w5.heap.size l)), (4, [], some (freshS w5.heap.size (uS 2 a2 bb).cells.toArray 34 1)), (5, [74, 76], some (P64 w5.heap.size l (uS 2 a2 bb))), (9, [77], none), (13, [], some (fresh w5.heap.size #[.int .i64 0, .int .i64 0, .int .i64 0] 37))] (by kernel_rfl) (by kernel_rfl) (by kernel_rfl) (by kernel_rfl) (fun _ _ _ _ _ _ h => h) rfl (RK.refl _ _ _) (fun _ _ _ => RK.trans _ _ _) ?_
    simp only [Late, List.take_succ_cons, List.drop_succ_cons, List.take_zero, List.drop_zero, Nat.reduceSub, Nat.reduceAdd, Nat.sub_zero]
    refine wpQuiet_nil ?_
    refine late_buildR (fun w => by kernel_rfl) (fun z => RK.of_le _ _ _ (hsz z) ((Below.refl _ _).alloc (Nat.le_refl _) _)) (fun v _ _ h => h.2.1 v) hsz (by simp only [Act.put, List.setIfInBounds_toArray, List.set_cons_succ, List.set_cons_zero]; rfl) ?_
    repeat (go_big_quiet_step (rfl))
    refine wpQuiet_nil ?_
    refine late_app1 (c2 := .slice A l.length cp) (fun v _ _ h => h.2.2.1 v) (fun _ => rfl) (fun z v59 h59 => empty_append _ l (uS 2 a2 bb) (hsz z) (by omega) h59 A cp (hRz z)) (by simp only [Act.put, List.setIfInBounds_toArray, List.set_cons_succ, List.set_cons_zero]; rfl) ?_
    repeat (go_big_quiet_step (rfl))
    refine wpQuiet_nil ?_
    refine late_buildR (fun w => by kernel_rfl) (fun z => RK.of_le _ _ _ (hsz z) ((Below.refl _ _).alloc (Nat.le_refl _) _)) (fun v _ _ h => h.2.2.2.1 v) hsz (by simp only [Act.put, List.setIfInBounds_toArray, List.set_cons_succ, List.set_cons_zero]; rfl) ?_
    refine wpQuiet_nil ?_
    refine late_app2 (by decide) (fun v _ _ h => h.2.2.2.2.1 v) (fun _ _ => rfl) (fun z v61 v63 h61 h63 => append_keeps _ l (uS 2 a2 bb) (hsz z) (by omega) h61 h63) (by simp only [Act.put, List.setIfInBounds_toArray, List.set_cons_succ, List.set_cons_zero]; rfl) ?_
    repeat (go_big_quiet_step (rfl))
    refine wpQuiet_nil ?_
    refine late_callg (args := [.tmp 77, .tmp 78, .tmp 79, .const (.int .i64 255), .tmp 80]) (rest := [.int .i64 l.length, .agg #[.int .i64 0, .int .i64 c, .int .i64 t], .int .i64 255, .bool a5]) (c := .tuple #[.agg #[.int .i64 X2, .int .i64 U, .int .i64 RG], .bool true]) Try.func38 (by kernel_rfl) (by kernel_rfl) (by decide) (by decide) (by decide) (fun _ => rfl) (fun z v h64 => by
        obtain ⟨ho, g, cap, rfl⟩ := h64
        have hlen : (l ++ [uS 2 a2 bb]).length = l.length + 1 := by simp
        have hr := OwnSmp.rows (l := l ++ [uS 2 a2 bb]) ho
        rw [hlen] at hr
        have hcp2 : l.length + 1 ≤ cap := by obtain ⟨_, _, hs, hc⟩ := Own.shape ho; rw [hlen] at hs hc; injection hs with _ _ hs; omega
        refine (of38 (some ⟨g, 0, none⟩) (l.length + 1) cap (fun i => (l ++ [uS 2 a2 bb]).getD i default) l.length 0 c t 255 a5 z.w (by omega) hcp2 hr HS2.out).mono fun e w' h => ?_
        obtain ⟨he, hb⟩ := h.some HE2.out
        exact ⟨he, RK.of_le _ _ _ (hsz z) hb⟩) (by simp only [Act.put, List.setIfInBounds_toArray, List.set_cons_succ, List.set_cons_zero]; rfl) ?_
    repeat (go_big_quiet_step (rfl))
    refine wpQuiet_nil ?_
    refine late_allocR (fun _ _ => by kernel_rfl) (fun z => RK.of_le _ _ _ (hsz z) ((Below.refl _ _).alloc (Nat.le_refl _) _)) (fun v _ _ h => h.2.2.2.2.2 v) hsz (by simp only [Act.put, List.setIfInBounds_toArray, List.set_cons_succ, List.set_cons_zero]; rfl) ?_
    refine wpQuiet_nil ?_
    intro z
    simp only [List.nil_append, List.cons_append, allGens, Option.getD_some]
    rintro v72 _ v74 _ v76 _ v77 _ v22 ⟨g22, rfl, hg22, hb22⟩
    simp only [Act.put, List.setIfInBounds_toArray, List.set_cons_succ, List.set_cons_zero]
    have hlz := hle z
    clear hle hsz zz zc hRz q0 q1 q2 q3 q4 q5 q6 q7 q8 q9 r0 r1 r2
    generalize z.w = w6 at *
    have y0 := cell_of_block hb22 0
    have y1 := cell_of_block hb22 1
    have y2 := cell_of_block hb22 2
    have y3 := free_of_block hb22
    simp only [List.getElem?_toArray, List.getElem?_cons_zero, List.getElem?_cons_succ] at y0 y1 y2
    go_upto_region 13 with fail
    have k22 : (((w6.setCell ⟨g22, 0, none⟩ (.int .i64 X2)).setCell ⟨g22, 1, none⟩ (.int .i64 U)).setCell ⟨g22, 2, none⟩ (.int .i64 RG)).heap[g22]? = some (.cells #[.int .i64 X2, .int .i64 U, .int .i64 RG] 37 (0, 0)) := block_set (block_set (block_set hb22 0 _) 1 _) 2 _
    have hl7 : Below w5.heap.size w5 (((w6.setCell ⟨g22, 0, none⟩ (.int .i64 X2)).setCell ⟨g22, 1, none⟩ (.int .i64 U)).setCell ⟨g22, 2, none⟩ (.int .i64 RG)) := ((hlz.setCell hg22 _).setCell hg22 _).setCell hg22 _
    clear y0 y1 y2 y3 hb22 hlz
    generalize ((w6.setCell ⟨g22, 0, none⟩ (.int .i64 X2)).setCell ⟨g22, 1, none⟩ (.int .i64 U)).setCell ⟨g22, 2, none⟩ (.int .i64 RG) = w7 at *
    replace k20 := (hl7.block _ (lt_of_blk k20)).trans k20
    replace hb := below_trans' hb hb.size hl7
    clear gy gc hR hl7 hg22
    have hvv1 := hv1
    have hvv2 := hv2
    simp only [vldS, Bool.and_eq_true, decide_eq_true_eq] at hvv1 hvv2
    obtain ⟨⟨⟨⟨f1, f2⟩, f3⟩, f4⟩, f5⟩ := hvv1
    obtain ⟨⟨⟨⟨_, _⟩, _⟩, f6⟩, f7⟩ := hvv2
    have m1 := mul_le4 (a := X1) (b := c) (A := 562949953421312) (B := 10000) (by omega) (by omega) (by omega) (by omega) (by omega)
    have m2 := mul_le4 (a := X2) (b := t) (A := 562949953421312) (B := 10000) (by omega) (by omega) (by omega) (by omega) (by omega)
    have m3 := mul_le4 (a := t) (b := c) (A := 10000) (B := 10000) (by omega) (by omega) (by omega) (by omega) (by omega)
    have m30 : 0 ≤ c * t := Int.mul_nonneg (by omega) (by omega)
    have m4 := mul_le4 (a := c + t) (b := c * t) (A := 20000) (B := 100000000) (by omega) (by omega) (by omega) (by omega) (by omega)
    have m40 : 0 ≤ c * t * (c + t) := Int.mul_nonneg (by omega) (by omega)
    have m5 := mul_le4 (a := a2 - a1) (b := c * t * (c + t)) (A := 255) (B := 2000000000000) (by omega) (by omega) (by omega) (by omega) (by omega)
    have n1 : IntKind.i64.wrap (c * X1) = c * X1 := IntWalk.i64_in _ (by omega)
    have n2 : IntKind.i64.wrap (t * X2) = t * X2 := IntWalk.i64_in _ (by omega)
    have n3 : IntKind.i64.wrap (c * t) = c * t := IntWalk.i64_in _ (by omega)
    have n4 : IntKind.i64.wrap (c * t * (c + t)) = c * t * (c + t) := IntWalk.i64_in _ (by omega)
    have n5 : IntKind.i64.wrap (c * t * (c + t) * (a2 - a1)) = c * t * (c + t) * (a2 - a1) := IntWalk.i64_in _ (by omega)
    have hU := HUU.out
    have hL := HLAW.out
    have x0 := cell_of_block k20 0
    have x1 := cell_of_block k20 1
    have x2 := cell_of_block k20 2
    have y0 := cell_of_block k22 0
    have y1 := cell_of_block k22 1
    have y2 := cell_of_block k22 2
    simp only [List.getElem?_toArray, List.getElem?_cons_zero, List.getElem?_cons_succ] at x0 x1 x2 y0 y1 y2
    go_wp2_with fail
    have hv1' : vldS X1 (c * t * 255) RG = true := by rw [← HUU.out]; exact hv1
    have hv2' : vldS X2 (c * t * 255) RG = true := by rw [← HUU.out]; exact hv2
    refine (valid36 X1 (c * t * 255) RG w7 (by omega) (by omega)).mono ?_
    rintro e w8 ⟨rfl, hb8⟩
    rw [hv1']
    replace k22 := (hb8.block _ (lt_of_blk k22)).trans k22
    replace hb := below_trans' hb hb.size hb8
    have y0 := cell_of_block k22 0
    have y1 := cell_of_block k22 1
    have y2 := cell_of_block k22 2
    simp only [List.getElem?_toArray, List.getElem?_cons_zero, List.getElem?_cons_succ] at y0 y1 y2
    clear hb8 x0 x1 x2
    go_wp2_with fail
    refine (valid36 X2 (c * t * 255) RG w8 (by omega) (by omega)).mono ?_
    rintro e w9 ⟨rfl, hb9⟩
    rw [hv2']
    replace hb := below_trans' hb hb.size hb9
    go_wp2_with fail
    go_ret
    exact ⟨rfl, hb⟩
end Go.Proofs.Ytgonighpjpfmnaa
