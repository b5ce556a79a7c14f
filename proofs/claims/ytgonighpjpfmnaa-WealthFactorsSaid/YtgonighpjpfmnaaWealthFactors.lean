/- The walk of flagstonelaw40.WealthFactors. -/
import Derived.Test.YtgonighpjpfmnaaThresh
import Derived.Test.YtgonighpjpfmnaaLate3
import Derived.Test.YtgonighpjpfmnaaScoreValid
import Derived.Test.YtgonighpjpfmnaaScoreSums
namespace Go.Proofs.Ytgonighpjpfmnaa
open Go.RowKit

/-- What the law asks of a factor. -/
theorem fac_law (n u r e b : Int) (up : Bool) : (facN n u r e b up == facN n u r e b up) = true ∧ ¬ facN n u r e b up < facD n u r e b / 2 ∧ ¬ facD n u r e b / 2 < facN n u r e b up - facD n u r e b ∧ 1 ≤ facD n u r e b ∧ facD n u r e b ≤ 4503599627370496000 ∧ 0 ≤ facN n u r e b up ∧ facN n u r e b up ≤ 9007199254740992000 := by
  have := fac_bd n u r e b up
  refine ⟨by simp, ?_⟩
  omega

set_option maxRecDepth 100000 in
set_option maxHeartbeats 2000000 in
theorem wealthFactors12 (c0 : List Value) (a1 a2 : Int) (a3 : Option Addr) (len3 cap3 : Nat) (z3 : List Int) (a4 : Int) (a5 : Bool) (w : World) (w0 : CellsOk kScore c0) (_ : (Lit.int .i64 a1).wf = true) (_ : (Lit.int .i64 a2).wf = true) (w3 : IsRow .u8 w a3 len3 cap3 z3) (w4 : (Lit.int .i16 a4).wf = true) :
    Calls Try.prog 12 #[.agg c0.toArray, .int .i64 a1, .int .i64 a2, .slice a3 len3 cap3, .int .i16 a4, .bool a5] w fun e w' => e = .returned (.bool true) ∧ Below w.heap.size w w' := by
  have b4 := bounds_i16 w4
  have hB := w3.bytes
  obtain ⟨s, rfl, bn, bu, br⟩ := kScore_of w0
  obtain ⟨i0, hi, hz0, hz1, hz2⟩ := info_parts info37
  clear w0 w3 w4
  unfold Scr.cells
  by_cases hlen : 100 < len3
  · go_enter Try.func12, Try.ntmps12
    go_wp2_with (go_at_call 44; refine (awake44 _).mono ?_; rintro e w' ⟨rfl, hb⟩)
    go_ret
    exact ⟨rfl, by have := ((Below.refl w.heap.size w).alloc (Nat.le_refl _) (.cells #[.int .i64 s.num, .int .i64 s.unit, .int .i64 s.rng] 37)).trans (hb.mono (by simp)); exact this⟩
  · go_enter Try.func12, Try.ntmps12
    go_wp2_with fail
    refine (awake44 _).mono ?_
    rintro e w1 ⟨rfl, hb1⟩
    have hb0 := ((Below.refl w.heap.size w).alloc (Nat.le_refl _) (.cells #[.int .i64 s.num, .int .i64 s.unit, .int .i64 s.rng] 37))
    have hg := heap_alloc_new w (.cells #[.int .i64 s.num, .int .i64 s.unit, .int .i64 s.rng] 37)
    rw [← hb1.block _ (lt_of_blk hg)] at hg
    have hb := hb0.trans (hb1.mono (by simp))
    have hz := lt_of_blk hg
    have q0 := cell_of_block hg 0
    have q1 := cell_of_block hg 1
    have q2 := cell_of_block hg 2
    simp only [List.getElem?_toArray, List.getElem?_cons_zero, List.getElem?_cons_succ] at q0 q1 q2
    clear hb0 hb1
    obtain ⟨N0, e0⟩ : ∃ N, facN s.num s.unit s.rng a1 a2 a5 = N := ⟨_, rfl⟩
    obtain ⟨D0, e1⟩ : ∃ N, facD s.num s.unit s.rng a1 a2 = N := ⟨_, rfl⟩
    have E0 := Lib.hid e0
    have E1 := Lib.hid e1
    clear e0 e1
    go_wp2_with fail
    refine (fac47 s.num s.unit s.rng a1 a2 a5 _ (by omega) (by omega)).mono ?_
    rintro e w2 ⟨rfl, hb2⟩
    rw [E0.out, E1.out]
    rw [← hb2.block _ hz] at hg
    have hb := below_trans' hb hb.size hb2
    have hz := lt_of_blk hg
    have q0 := cell_of_block hg 0
    have q1 := cell_of_block hg 1
    have q2 := cell_of_block hg 2
    simp only [List.getElem?_toArray, List.getElem?_cons_zero, List.getElem?_cons_succ] at q0 q1 q2
    clear hb2
    go_wp2_with fail
    refine (fac48 s.num s.unit s.rng a1 a2 a5 _ (by omega) (by omega)).mono ?_
    rintro e w3 ⟨rfl, hb3⟩
    rw [E0.out, E1.out]
    have hb := below_trans' hb hb.size hb3
    clear q0 q1 q2 hz hg hb3 E0 E1
    obtain ⟨m, hm⟩ : ∃ m : Int, 562949953421307 - a4.tmod 3 = m := ⟨_, rfl⟩
    have hmb : 562949953421300 ≤ m ∧ m ≤ 562949953421310 := by
      have h1 : -3 < a4.tmod 3 := by have := Int.lt_tmod_of_pos a4 (show (0 : Int) < 3 by omega); omega
      have h2 : a4.tmod 3 < 3 := by have := Int.tmod_lt_of_pos a4 (show (0 : Int) < 3 by omega); omega
      omega
    have hBx := (hB.kept hb (Nat.le_refl _)).more' hb.size
    clear hB
    go_upto_region 10 with fail
    have gw := heap_alloc_new w3 (.cells #[.int .i64 m, .int .i64 5, .int .i64 562949953421312] 37)
    have hb4 := hb.alloc hb.size (.cells #[.int .i64 m, .int .i64 5, .int .i64 562949953421312] 37)
    have hB4 := (hBx.kept ((Below.refl _ _).alloc (Nat.le_refl _) (.cells #[.int .i64 m, .int .i64 5, .int .i64 562949953421312] 37)) (Nat.le_refl _)).more' (show w3.heap.size ≤ (w3.alloc (.cells #[.int .i64 m, .int .i64 5, .int .i64 562949953421312] 37)).heap.size by simp)
    generalize w3.alloc (.cells #[.int .i64 m, .int .i64 5, .int .i64 562949953421312] 37) = w4 at *
    clear hBx hb hm
    generalize w3.heap.size = G at *
    have hw4 : w4.drew.heap = w4.heap := rfl
    have zz : ∀ x : Beh LeW w4.drew, x.w.heap[G]? = some (.cells #[.int .i64 m, .int .i64 5, .int .i64 562949953421312] 37 (0, 0)) := fun x => by rw [x.h.block _ (lt_of_blk (w := w4) gw)]; exact gw
    have z0 : ∀ x : Beh LeW w4.drew, x.w.cell? ⟨G, 0, none⟩ = some (.int .i64 m) := fun x => cell_of_block (zz x) 0
    have z1 : ∀ x : Beh LeW w4.drew, x.w.cell? ⟨G, 1, none⟩ = some (.int .i64 5) := fun x => cell_of_block (zz x) 1
    have z2 : ∀ x : Beh LeW w4.drew, x.w.cell? ⟨G, 2, none⟩ = some (.int .i64 562949953421312) := fun x => cell_of_block (zz x) 2
    have hxB : ∀ x : Beh LeW w4.drew, BytesAt x.w x.w.heap.size a3 len3 := fun x => (hB4.kept (Below.trans (Below.refl _ w4).drew x.h) (Nat.le_refl _)).more' x.h.size
    refine wp_region_late (R := LeW) 8 122 [(1, [], some (scoresP w4.heap.size)), (7, [], some (freshS w4.heap.size #[.int .i64 m, .int .i64 5, .int .i64 562949953421312, .int .i64 (-m), .int .i64 5, .int .i64 562949953421312] 37 2))] (by kernel_rfl) (by kernel_rfl) (by kernel_rfl) rfl LeW.refl (fun _ _ _ => LeW.trans) ?_
    simp only [Late, List.take_succ_cons, List.drop_succ_cons, List.take_zero, List.drop_zero, Nat.reduceSub, Nat.reduceAdd, Nat.sub_zero]
    repeat (go_big_quiet_step (fail))
    refine wpQuiet_nil ?_
    refine late_gen Try.func49 (by kernel_rfl) (by kernel_rfl) (scoresP_mono _) (fun x => (scores49 a3 len3 cap3 x.w (by omega) (hxB x)).mono fun e w' ⟨v, l, he, hl, hs, ho, hb⟩ => ⟨v, he, hb, l, hl, hs, Own.mono ho x.h.size⟩) rfl (by simp only [Act.put, List.setIfInBounds_toArray, List.set_cons_succ, List.set_cons_zero]; rfl) ?_
    repeat (go_big_quiet_step (fail))
    refine wpQuiet_nil ?_
    refine late_build (fun w => by kernel_rfl) (fun x => x.h.size) (by simp only [Act.put, List.setIfInBounds_toArray, List.set_cons_succ, List.set_cons_zero]; rfl) ?_
    refine wpQuiet_nil ?_
    intro x
    simp only [List.nil_append, List.cons_append, allGens, Option.getD_some]
    rintro v ⟨l, hl30, hls, hown⟩ v2 ⟨g2, rfl, hg2, hblk⟩
    simp only [Act.put, List.setIfInBounds_toArray, List.set_cons_succ, List.set_cons_zero]
    have hb5 := hb4.trans ((Below.trans (Below.refl _ w4).drew x.h).mono hb4.size)
    have h45 : Below w4.heap.size w4 x.w := Below.trans (Below.refl _ w4).drew x.h
    have hsz := x.h.size
    clear zz z0 z1 z2 hxB hw4
    generalize x.w = w5 at *
    obtain ⟨A, cp, rfl, hcp⟩ := Own.shape hown
    have hz5 : w4.heap.size ≤ w5.heap.size := hsz
    go_wp2_with (at_builtin; refine wpList_append_lies _ (by rfl) (.tmp 56) (.tmp 62) 38 (by rfl) w4.heap.size 37 i0 _ 3 24 Try.underlying38 hi hz0 hz1 hz2 rfl (by omega) _ _ _ (by rfl) hown ⟨g2, 0, none⟩ 2 2 [.int .i64 m, .int .i64 5, .int .i64 562949953421312, .int .i64 (-m), .int .i64 5, .int .i64 562949953421312] (by rfl) (by rfl) (World.news_of_block hblk) (by simp [Value.oneCell']) (by omega) (by unfold maxLen; omega) (by omega) (by omega) w5.heap.size (by rfl) ?_; intro g' cap' w6 hown6 hgrow hat hlt6)
    have hb6 : Below w.heap.size w w6 := hb5.grown hgrow hb5.size (fun q hq => Nat.le_trans hb4.size (World.ownsRow.lt hown q hq).1)
    have ho : OwnScr w6 w4.heap.size (.slice (some ⟨g', 0, none⟩) (l.length + 2) cap') (l ++ [⟨m, 5, 562949953421312⟩, ⟨-m, 5, 562949953421312⟩]) := by
      unfold OwnScr Own
      rw [List.length_append, List.flatMap_append]
      exact hown6
    have hall : ∀ s ∈ l ++ [(⟨m, 5, 562949953421312⟩ : Scr), ⟨-m, 5, 562949953421312⟩], 1 ≤ s.unit ∧ s.rng ≤ 562949953421312 := fun s hs => by
      rcases List.mem_append.1 hs with h | h
      · obtain ⟨k1, k2, k3, k4, k5, k6⟩ := hls s h; omega
      · simp at h; rcases h with rfl | rfl <;> simp
    have hn : (l ++ [(⟨m, 5, 562949953421312⟩ : Scr), ⟨-m, 5, 562949953421312⟩]).length = l.length + 2 := by simp
    clear hown hown6 hgrow hat hls hblk hb4 hb5 h45 hB4 gw hcp
    generalize l ++ [(⟨m, 5, 562949953421312⟩ : Scr), ⟨-m, 5, 562949953421312⟩] = L at *
    rw [← hn] at ho
    have hR := Own.rows (c := Scr.cells) (fun _ => rfl) default ho
    rw [← hn]
    have hLn : L.length ≤ 32 := by omega
    clear hn hsz hz5
    obtain ⟨e, he⟩ : ∃ e : Int, a4.tmod 1002 = e := ⟨_, rfl⟩
    go_loopg [19] L.length (fun m i wr => ∃ k : Nat, k ≤ L.length ∧ m = L.length - k ∧ i = .int .i64 k ∧ Below w6.heap.size w6 wr)
    case atStart => exact ⟨0, by omega, by omega, rfl, Below.refl _ _⟩
    case round =>
      obtain ⟨k, hk, hmk, rfl, hbr⟩ := hrel
      have HMK := Lib.hid hmk
      clear hmk
      by_cases hkl : k < L.length
      · have hdk : decide ((k : Int) < L.length) = true := by simp; omega
        have hsk := hall (L.getD k default) (by rw [List.getD_eq_getElem?_getD, List.getElem?_eq_getElem hkl]; simp)
        go_wp2_with fail
        go_loopg [20] 7 (fun m i wi => ∃ b : Int, -1 ≤ b ∧ b ≤ 6 ∧ m = (6 - b).toNat ∧ i = .int .i64 b ∧ Below w6.heap.size w6 wi)
        case atStart => exact ⟨-1, by omega, by omega, by omega, rfl, hbr⟩
        case round =>
          obtain ⟨b, hb1, hb2, hmb, rfl, hbi⟩ := hrel
          have HMB := Lib.hid hmb
          clear hmb
          by_cases hbl : b ≤ 5
          · obtain ⟨bk, off, hA, hblt, hc⟩ := ((hR.below hbi (Nat.le_refl _)).more hbi.size) (by omega)
            cases hA
            have y0 := hc k hkl 0 _ rfl
            have y1 := hc k hkl 1 _ rfl
            have y2 := hc k hkl 2 _ rfl
            simp only [Nat.add_zero, Nat.zero_add] at y0 y1 y2
            clear hc
            generalize L.getD k default = q at *
            have hw := fac_law q.num q.unit q.rng e b a5
            obtain ⟨N, eN⟩ : ∃ N, facN q.num q.unit q.rng e b a5 = N := ⟨_, rfl⟩
            obtain ⟨D, eD⟩ : ∃ N, facD q.num q.unit q.rng e b = N := ⟨_, rfl⟩
            rw [eN, eD] at hw
            have EN := Lib.hid eN
            have ED := Lib.hid eD
            clear eN eD
            obtain ⟨h0, h1, h2, h3, h4, h5, h6⟩ := hw
            go_wp2_with fail
            refine (fac47 q.num q.unit q.rng e b a5 _ (by omega) (by omega)).mono ?_
            rintro en wa ⟨rfl, hba⟩
            rw [EN.out, ED.out]
            rw [← hba.cell hblt] at y0
            have y1 := (hba.cell hblt).trans y1
            have y2 := (hba.cell hblt).trans y2
            have hblt := Nat.lt_of_lt_of_le hblt hba.size
            have hbi := below_trans' hbi hbi.size hba
            clear hba
            go_wp2_with fail
            refine (fac48 q.num q.unit q.rng e b a5 _ (by omega) (by omega)).mono ?_
            rintro en wb ⟨rfl, hbb⟩
            rw [EN.out, ED.out]
            have hbi := below_trans' hbi hbi.size hbb
            clear hbb y0 y1 y2 hblt
            go_wp2_with fail
            go_roundg (6 - (b + 1)).toNat
            case measure => have := HMB.out; omega
            case rel => exact ⟨b + 1, by omega, by omega, rfl, by go_num, hbi⟩
          · go_wp2_with fail
            go_roundg (L.length - (k + 1))
            case measure => have := HMK.out; omega
            case rel => exact ⟨k + 1, by omega, rfl, by go_num, hbi⟩
      · have hdk : decide ((k : Int) < L.length) = false := by simp; omega
        go_wp2_with fail
        go_ret
        exact ⟨rfl, hb6.trans (hbr.mono hb6.size)⟩
end Go.Proofs.Ytgonighpjpfmnaa
