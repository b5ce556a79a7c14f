/- The walk of flagstonelaw39.ScoreTells. -/
import Derived.Test.YtgonighpjpfmnaaOfBoth
import Derived.Test.YtgonighpjpfmnaaScoreSums
namespace Go.Proofs.Ytgonighpjpfmnaa
open Go.RowKit

def kWt : List CK := [.int .i64, .int .i64, .int .i64]
theorem kWt_of {cs : List Value} (h : CellsOk kWt cs) : ∃ x : Wt, cs = x.cells := by
  unfold kWt at h
  rcases cs with _ | ⟨a, _ | ⟨b, _ | ⟨c, _ | ⟨d, l⟩⟩⟩⟩ <;> simp only [CellsOk, and_false] at h
  obtain ⟨⟨x, rfl, _⟩, ⟨y, rfl, _⟩, ⟨z, rfl, _⟩, _⟩ := h
  exact ⟨⟨x, y, z⟩, rfl⟩

set_option maxRecDepth 100000 in
set_option maxHeartbeats 4000000 in
theorem scoreTells6 (a0 : Option Addr) (len0 cap0 : Nat) (z0 : List Int) (c1 : List Value) (a2 a3 a4 a5 : Int) (a6 : Bool) (w : World) (w0 : IsRow .u8 w a0 len0 cap0 z0) (w1 : CellsOk kWt c1) (w2 : (Lit.int .u8 a2).wf = true) (w3 : (Lit.int .u8 a3).wf = true) (_w4 : (Lit.int .i64 a4).wf = true) (_w5 : (Lit.int .i64 a5).wf = true) :
    Calls Try.prog 6 #[.slice a0 len0 cap0, .agg c1.toArray, .int .u8 a2, .int .u8 a3, .int .i64 a4, .int .i64 a5, .bool a6] w fun e w' => e = .returned (.bool true) ∧ Below w.heap.size w w' := by
  have b2 := bounds_u8 w2
  have b3 := bounds_u8 w3
  have hB := w0.bytes
  obtain ⟨x, rfl⟩ := kWt_of w1
  clear w0 w1 w2 w3
  unfold Wt.cells
  have hb00 : Below w.heap.size w (w.alloc (.cells #[.int .i64 x.ver, .int .i64 x.con, .int .i64 x.tre] 42)) := (Below.refl _ _).alloc (Nat.le_refl _) _
  by_cases hlen : 200 < len0
  · go_enter Try.func6, Try.ntmps6
    go_wp2_with (go_at_call 30; refine (awake30 _).mono ?_; rintro e w' ⟨rfl, hb⟩)
    go_ret
    exact ⟨rfl, hb00.trans (hb.mono (by simp))⟩
  · go_enter Try.func6, Try.ntmps6
    go_wp2_with fail
    refine (awake30 _).mono ?_
    rintro e w1 ⟨rfl, hb1⟩
    have hz1 : w.heap.size < w1.heap.size := by have := hb1.size; simp at this; omega
    have q0 : w1.cell? ⟨w.heap.size, 0, none⟩ = some (.int .i64 x.ver) := (hb1.cell (by simp)).trans (by simp)
    have q1 : w1.cell? ⟨w.heap.size, 1, none⟩ = some (.int .i64 x.con) := (hb1.cell (by simp)).trans (by simp)
    have q2 : w1.cell? ⟨w.heap.size, 2, none⟩ = some (.int .i64 x.tre) := (hb1.cell (by simp)).trans (by simp)
    have hb1 := hb00.trans (hb1.mono (by simp))
    go_wp2_with fail
    refine (samples31 a0 len0 cap0 200 w1 (by omega) (by omega) (by omega) ((hB.kept hb1 (Nat.le_refl _)).more' hb1.size)).mono ?_
    rintro e w2 ⟨v, l, rfl, hl, hgood, hown, hb2⟩
    have hz2 : w.heap.size < w2.heap.size := by have := hb2.size; omega
    have q0 : w2.cell? ⟨w.heap.size, 0, none⟩ = some (.int .i64 x.ver) := (hb2.cell (by exact hz1)).trans q0
    have q1 : w2.cell? ⟨w.heap.size, 1, none⟩ = some (.int .i64 x.con) := (hb2.cell (by exact hz1)).trans q1
    have q2 : w2.cell? ⟨w.heap.size, 2, none⟩ = some (.int .i64 x.tre) := (hb2.cell (by exact hz1)).trans q2
    obtain ⟨A, cp, rfl, hcp⟩ := Own.shape hown
    have hR := OwnSmp.rows hown
    have hin := Smp.made_in (by omega) hgood
    have hb := below_trans hb1 hb2
    clear hgood hown hb1 hb2 hB hb00 hz1
    go_wp2_with fail
    change Code.wp _ _ _ _ ((w2.alloc (.cells (([x, ⟨0, 1 + a2, 1 + a3⟩, ⟨0, 9999 + a2 % 3, a3 % 2⟩, ⟨0, 10000, 10000⟩] : List Wt).flatMap Wt.cells).toArray 42)).alloc (.cells (([a5, 200, 100, 1048576, 1048577] : List Int).flatMap fun i => [.int .i64 i]).toArray 3))
    generalize hLw : ([x, ⟨0, 1 + a2, 1 + a3⟩, ⟨0, 9999 + a2 % 3, a3 % 2⟩, ⟨0, 10000, 10000⟩] : List Wt) = Lw
    generalize hLc : ([a5, 200, 100, 1048576, 1048577] : List Int) = Lc
    have hLl : Lw.length = 4 := by rw [← hLw]; rfl
    have hLcl : Lc.length = 5 := by rw [← hLc]; rfl
    clear hLw hLc q0 q1 q2
    have gw := heap_alloc_new w2 (.cells (Lw.flatMap Wt.cells).toArray 42)
    rw [← Below.heap_alloc _ (.cells (Lc.flatMap fun i => [.int .i64 i]).toArray 3) _ (by simp)] at gw
    have gc := heap_alloc_new (w2.alloc (.cells (Lw.flatMap Wt.cells).toArray 42)) (.cells (Lc.flatMap fun i => [.int .i64 i]).toArray 3)
    rw [World.size_alloc] at gc
    have hb3 := (hb.alloc hb.size (.cells (Lw.flatMap Wt.cells).toArray 42)).alloc (by simp; omega) (.cells (Lc.flatMap fun i => [.int .i64 i]).toArray 3)
    have hb23 : Below w2.heap.size w2 ((w2.alloc (.cells (Lw.flatMap Wt.cells).toArray 42)).alloc (.cells (Lc.flatMap fun i => [.int .i64 i]).toArray 3)) := ((Below.refl _ _).alloc (Nat.le_refl _) _).alloc (by simp) _
    generalize (w2.alloc (.cells (Lw.flatMap Wt.cells).toArray 42)).alloc (.cells (Lc.flatMap fun i => [.int .i64 i]).toArray 3) = w3 at *
    have hR3 := (hR.below hb23 (Nat.le_refl _)).more hb23.size
    have hW3 := rows_of_flat Wt.len ⟨0, 0, 0⟩ gw
    have hC3 := rows_of_flat (c := fun i => [Value.int .i64 i]) (size := 1) (fun _ => rfl) (0 : Int) gc
    rw [hLl] at hW3
    rw [hLcl] at hC3
    have hsz : w2.heap.size + 1 < w3.heap.size := lt_of_blk gc
    have hb := hb3
    clear gw gc hb3 hb23 hR hLl hLcl
    generalize w2.heap.size = G at *
    clear hz2
    go_loopg [18] 4 (fun m i wr => ∃ p : Nat, p ≤ 4 ∧ m = 4 - p ∧ i = .int .i64 p ∧ Below w3.heap.size w3 wr)
    case atStart => exact ⟨0, by omega, by omega, rfl, Below.refl _ _⟩
    case round =>
      obtain ⟨p, hp, hmp, rfl, hbr⟩ := hrel
      have HMP := Lib.hid hmp
      clear hmp
      by_cases hp4 : p < 4
      · obtain ⟨Wp, hWp⟩ : ∃ x, x = Lw.getD p ⟨0, 0, 0⟩ := ⟨_, rfl⟩
        have HWp := Lib.hid hWp
        clear hWp
        have hdp : decide ((p : Int) < 4) = true := by simp; omega
        go_wp2_with fail
        go_loopg [19] 5 (fun m i wr => ∃ q : Nat, q ≤ 5 ∧ m = 5 - q ∧ i = .int .i64 q ∧ Below w3.heap.size w3 wr)
        case atStart => exact ⟨0, by omega, by omega, rfl, hbr⟩
        case round =>
          clear hbr
          obtain ⟨q, hq, hmq, rfl, hbr⟩ := hrel
          have HMQ := Lib.hid hmq
          clear hmq
          by_cases hq5 : q < 5
          · obtain ⟨Cq, hCq⟩ : ∃ x, x = Lc.getD q 0 := ⟨_, rfl⟩
            obtain ⟨ox, oy, oz, ob, h38, h39, _, _⟩ := of_both l.length cp (fun i => l.getD i default) a4 Wp.ver Wp.con Wp.tre Cq a6 (by omega) hcp hin
            have HCq := Lib.hid hCq
            clear hCq
            have hdq : decide ((q : Int) < 5) = true := by simp; omega
            go_wp2_with fail
            have hRx : ∀ x : Beh LeW wr.drew, RowsAt x.w x.w.heap.size 10 A l.length (fun i => ((l.getD i default) : Smp).cells) := fun x => by
              have h1 := below_trans' hbr hbr.size (Below.trans ((Below.refl _ wr).drew) x.h)
              exact (hR3.below h1 (Nat.le_refl _)).more h1.size
            have hx1 : ∀ x : Beh LeW wr.drew, Below w3.heap.size w3 x.w := fun x => below_trans' hbr hbr.size (Below.trans ((Below.refl _ wr).drew) x.h)
            have q0 : ∀ x : Beh LeW wr.drew, x.w.cell? ⟨G, p * 3, none⟩ = some (.int .i64 Wp.ver) := fun x => by have := (hW3.below (hx1 x) (Nat.le_refl _)).at hp4 (j := 0) (u := .int .i64 Wp.ver) (by rw [← HWp.out]; rfl); simpa using this
            have q1 : ∀ x : Beh LeW wr.drew, x.w.cell? ⟨G, p * 3 + 1, none⟩ = some (.int .i64 Wp.con) := fun x => by have := (hW3.below (hx1 x) (Nat.le_refl _)).at hp4 (j := 1) (u := .int .i64 Wp.con) (by rw [← HWp.out]; rfl); simpa using this
            have q2 : ∀ x : Beh LeW wr.drew, x.w.cell? ⟨G, p * 3 + 2, none⟩ = some (.int .i64 Wp.tre) := fun x => by have := (hW3.below (hx1 x) (Nat.le_refl _)).at hp4 (j := 2) (u := .int .i64 Wp.tre) (by rw [← HWp.out]; rfl); simpa using this
            have q3 : ∀ x : Beh LeW wr.drew, x.w.cell? ⟨G + 1, q, none⟩ = some (.int .i64 Cq) := fun x => by have := (hC3.below (hx1 x) (Nat.le_refl _)).at hq5 (j := 0) (u := .int .i64 Cq) (by rw [← HCq.out]; rfl); simpa using this
            refine wp_region_loose (R := LeW) 16 158 [14] [(11, [], none), (15, [], some (fresh w3.heap.size #[.int .i64 0, .int .i64 0, .int .i64 0] 37))] (by kernel_rfl) (by kernel_rfl) (by kernel_rfl) (by kernel_rfl) (fun _ _ _ _ _ _ h => h) rfl LeW.refl (fun _ _ _ => LeW.trans) ?_
            simp only [Late, List.take_succ_cons, List.drop_succ_cons, List.take_zero, List.drop_zero, Nat.reduceSub, Nat.reduceAdd, Nat.sub_zero]
            repeat (go_big_quiet_step (fail))
            refine wpQuiet_nil ?_
            refine late_call Try.func38 (by kernel_rfl) (by kernel_rfl) (fun x => h38 A x.w (hRx x)) rfl (by simp only [Act.put, List.setIfInBounds_toArray, List.set_cons_succ, List.set_cons_zero]; rfl) ?_
            repeat (go_big_quiet_step (fail))
            refine wpQuiet_nil ?_
            refine late_alloc (fun _ _ => by kernel_rfl) (fun x => (hx1 x).size) (by simp only [Act.put, List.setIfInBounds_toArray, List.set_cons_succ, List.set_cons_zero]; rfl) ?_
            refine wpQuiet_nil ?_
            intro x
            simp only [List.nil_append, allGens, Option.getD_some]
            rintro v ⟨g1, rfl, hg, hblk⟩
            have hb4 := hx1 x
            simp only [Act.put, List.setIfInBounds_toArray, List.set_cons_succ, List.set_cons_zero]
            have y0 := cell_of_block hblk 0
            have y1 := cell_of_block hblk 1
            have y2 := cell_of_block hblk 2
            have y3 := free_of_block hblk
            simp only [List.getElem?_toArray, List.getElem?_cons_zero, List.getElem?_cons_succ] at y0 y1 y2
            clear q0 q1 q2 q3 hRx hx1
            generalize x.w = w4 at *
            go_wp2_with fail
            have hg1 : (((w4.setCell ⟨g1, 0, none⟩ (.int .i64 ox)).setCell ⟨g1, 1, none⟩ (.int .i64 oy)).setCell ⟨g1, 2, none⟩ (.int .i64 oz)).heap[g1]? = some (.cells #[.int .i64 ox, .int .i64 oy, .int .i64 oz] 37 (0, 0)) := block_set (block_set (block_set hblk 0 _) 1 _) 2 _
            have hgw : w3.heap.size ≤ g1 := by have := hbr.size; omega
            have hb4 := (hb4.setCell (p := ⟨g1, 0, none⟩) hgw (.int .i64 ox)).setCell (p := ⟨g1, 1, none⟩) hgw (.int .i64 oy) |>.setCell (p := ⟨g1, 2, none⟩) hgw (.int .i64 oz)
            clear hgw
            clear y0 y1 y2 y3 hblk
            generalize ((w4.setCell ⟨g1, 0, none⟩ (.int .i64 ox)).setCell ⟨g1, 1, none⟩ (.int .i64 oy)).setCell ⟨g1, 2, none⟩ (.int .i64 oz) = w5 at *
            have hg3 := hg
            clear hg
            have hRx : ∀ x : Beh LeW w5.drew, RowsAt x.w x.w.heap.size 10 A l.length (fun i => ((l.getD i default) : Smp).cells) := fun x => by
              have h1 := below_trans' hb4 hb4.size (Below.trans ((Below.refl _ w5).drew) x.h)
              exact (hR3.below h1 (Nat.le_refl _)).more h1.size
            have hx1 : ∀ x : Beh LeW w5.drew, Below w3.heap.size w3 x.w := fun x => below_trans' hb4 hb4.size (Below.trans ((Below.refl _ w5).drew) x.h)
            have q0 : ∀ x : Beh LeW w5.drew, x.w.cell? ⟨G, p * 3, none⟩ = some (.int .i64 Wp.ver) := fun x => by have := (hW3.below (hx1 x) (Nat.le_refl _)).at hp4 (j := 0) (u := .int .i64 Wp.ver) (by rw [← HWp.out]; rfl); simpa using this
            have q1 : ∀ x : Beh LeW w5.drew, x.w.cell? ⟨G, p * 3 + 1, none⟩ = some (.int .i64 Wp.con) := fun x => by have := (hW3.below (hx1 x) (Nat.le_refl _)).at hp4 (j := 1) (u := .int .i64 Wp.con) (by rw [← HWp.out]; rfl); simpa using this
            have q2 : ∀ x : Beh LeW w5.drew, x.w.cell? ⟨G, p * 3 + 2, none⟩ = some (.int .i64 Wp.tre) := fun x => by have := (hW3.below (hx1 x) (Nat.le_refl _)).at hp4 (j := 2) (u := .int .i64 Wp.tre) (by rw [← HWp.out]; rfl); simpa using this
            have q3 : ∀ x : Beh LeW w5.drew, x.w.cell? ⟨G + 1, q, none⟩ = some (.int .i64 Cq) := fun x => by have := (hC3.below (hx1 x) (Nat.le_refl _)).at hq5 (j := 0) (u := .int .i64 Cq) (by rw [← HCq.out]; rfl); simpa using this
            refine wp_region_loose (R := LeW) 16 158 [14] [(11, [], none), (15, [], some (fresh w5.heap.size #[.int .i64 0, .int .i64 0, .int .i64 0] 37))] (by kernel_rfl) (by kernel_rfl) (by kernel_rfl) (by kernel_rfl) (fun _ _ _ _ _ _ h => h) rfl LeW.refl (fun _ _ _ => LeW.trans) ?_
            simp only [Late, List.take_succ_cons, List.drop_succ_cons, List.take_zero, List.drop_zero, Nat.reduceSub, Nat.reduceAdd, Nat.sub_zero]
            repeat (go_big_quiet_step (fail))
            refine wpQuiet_nil ?_
            refine late_call Try.func39 (by kernel_rfl) (by kernel_rfl) (fun x => h39 A x.w (hRx x)) rfl (by simp only [Act.put, List.setIfInBounds_toArray, List.set_cons_succ, List.set_cons_zero]; rfl) ?_
            repeat (go_big_quiet_step (fail))
            refine wpQuiet_nil ?_
            refine late_alloc (fun _ _ => by kernel_rfl) (fun x => x.h.size) (by simp only [Act.put, List.setIfInBounds_toArray, List.set_cons_succ, List.set_cons_zero]; rfl) ?_
            refine wpQuiet_nil ?_
            intro x
            simp only [List.nil_append, allGens, Option.getD_some]
            rintro v ⟨g2, rfl, hg, hblk⟩
            have hb6 := hx1 x
            simp only [Act.put, List.setIfInBounds_toArray, List.set_cons_succ, List.set_cons_zero]
            have y0 := cell_of_block hblk 0
            have y1 := cell_of_block hblk 1
            have y2 := cell_of_block hblk 2
            have y3 := free_of_block hblk
            simp only [List.getElem?_toArray, List.getElem?_cons_zero, List.getElem?_cons_succ] at y0 y1 y2
            have hgx : x.w.heap[g1]? = some (.cells #[.int .i64 ox, .int .i64 oy, .int .i64 oz] 37 (0, 0)) := by rw [x.h.block _ (lt_of_blk (w := w5) hg1)]; exact hg1
            have hne : g1 ≠ g2 := by have := lt_of_blk hg1; omega
            clear hg1
            clear q0 q1 q2 q3 hRx hx1
            generalize x.w = w6 at *
            have hg2 : (((w6.setCell ⟨g2, 0, none⟩ (.int .i64 ox)).setCell ⟨g2, 1, none⟩ (.int .i64 oy)).setCell ⟨g2, 2, none⟩ (.int .i64 oz)).heap[g2]? = some (.cells #[.int .i64 ox, .int .i64 oy, .int .i64 oz] 37 (0, 0)) := block_set (block_set (block_set hblk 0 _) 1 _) 2 _
            have hgw : w3.heap.size ≤ g2 := by have := hb4.size; omega
            have hb6 := (hb6.setCell (p := ⟨g2, 0, none⟩) hgw (.int .i64 ox)).setCell (p := ⟨g2, 1, none⟩) hgw (.int .i64 oy) |>.setCell (p := ⟨g2, 2, none⟩) hgw (.int .i64 oz)
            clear hgw
            have hg1 : (((w6.setCell ⟨g2, 0, none⟩ (.int .i64 ox)).setCell ⟨g2, 1, none⟩ (.int .i64 oy)).setCell ⟨g2, 2, none⟩ (.int .i64 oz)).heap[g1]? = some (.cells #[.int .i64 ox, .int .i64 oy, .int .i64 oz] 37 (0, 0)) := by
              rw [Below.heap_setCell _ _ _ _ (by exact hne), Below.heap_setCell _ _ _ _ (by exact hne), Below.heap_setCell _ _ _ _ (by exact hne)]; exact hgx
            clear hgx
            have v0 := cell_of_block hg1 0
            have v1 := cell_of_block hg1 1
            have v2 := cell_of_block hg1 2
            have u0 := cell_of_block hg2 0
            have u1 := cell_of_block hg2 1
            have u2 := cell_of_block hg2 2
            simp only [List.getElem?_toArray, List.getElem?_cons_zero, List.getElem?_cons_succ] at v0 v1 v2 u0 u1 u2
            go_wp2_with fail
            generalize ((w6.setCell ⟨g2, 0, none⟩ (.int .i64 ox)).setCell ⟨g2, 1, none⟩ (.int .i64 oy)).setCell ⟨g2, 2, none⟩ (.int .i64 oz) = w7 at *
            have hgw1 : w3.heap.size ≤ g1 := hg3
            have hne12 : g1 ≠ g2 := hne
            have hgw2 : w3.heap.size ≤ g2 := Nat.le_trans hb4.size hg
            clear v0 v1 v2 u0 u1 u2 hg hg3 hb4 h38 h39
            go_loopg [24] (l.length + 3) (fun m i wr => ∃ n : Nat, n ≤ l.length + 3 ∧ m = l.length + 3 - n ∧ i = .int .i64 n ∧ Below w3.heap.size w3 wr ∧ (∃ s1 : Scr, wr.heap[g1]? = some (.cells #[.int .i64 s1.num, .int .i64 s1.unit, .int .i64 s1.rng] 37 (0, 0))) ∧ ∃ s2 : Scr, wr.heap[g2]? = some (.cells #[.int .i64 s2.num, .int .i64 s2.unit, .int .i64 s2.rng] 37 (0, 0)))
            case atStart => exact ⟨0, by omega, by omega, rfl, hb6, ⟨⟨ox, oy, oz⟩, hg1⟩, ⟨ox, oy, oz⟩, hg2⟩
            case round =>
              clear hg1 hg2 hb6
              obtain ⟨n, hn, hmn, rfl, hbr, ⟨s1, hg1⟩, s2, hg2⟩ := hrel
              have HMN := Lib.hid hmn
              clear hmn
              by_cases hgo : n < l.length ∧ q < 3
              · obtain ⟨hnl, hq3⟩ := hgo
                have hd1 : decide (n < l.length) = true := by simpa using hnl
                have hd2 : decide ((q : Int) < 3) = true := by simp; omega
                obtain ⟨ox, oy, oz, ob, h38, h39, hval, hbd1, hbd2⟩ := of_both l.length cp (fun i => l.getD i default) n Wp.ver Wp.con Wp.tre Cq a6 (by omega) hcp hin
                go_wp2_with fail
                have hRx : ∀ x : Beh LeW wr.drew, RowsAt x.w x.w.heap.size 10 A l.length (fun i => ((l.getD i default) : Smp).cells) := fun x => by
                  have h1 := below_trans' hbr hbr.size (Below.trans ((Below.refl _ wr).drew) x.h)
                  exact (hR3.below h1 (Nat.le_refl _)).more h1.size
                have hx1 : ∀ x : Beh LeW wr.drew, Below w3.heap.size w3 x.w := fun x => below_trans' hbr hbr.size (Below.trans ((Below.refl _ wr).drew) x.h)
                have q0 : ∀ x : Beh LeW wr.drew, x.w.cell? ⟨G, p * 3, none⟩ = some (.int .i64 Wp.ver) := fun x => by have := (hW3.below (hx1 x) (Nat.le_refl _)).at hp4 (j := 0) (u := .int .i64 Wp.ver) (by rw [← HWp.out]; rfl); simpa using this
                have q1 : ∀ x : Beh LeW wr.drew, x.w.cell? ⟨G, p * 3 + 1, none⟩ = some (.int .i64 Wp.con) := fun x => by have := (hW3.below (hx1 x) (Nat.le_refl _)).at hp4 (j := 1) (u := .int .i64 Wp.con) (by rw [← HWp.out]; rfl); simpa using this
                have q2 : ∀ x : Beh LeW wr.drew, x.w.cell? ⟨G, p * 3 + 2, none⟩ = some (.int .i64 Wp.tre) := fun x => by have := (hW3.below (hx1 x) (Nat.le_refl _)).at hp4 (j := 2) (u := .int .i64 Wp.tre) (by rw [← HWp.out]; rfl); simpa using this
                have q3 : ∀ x : Beh LeW wr.drew, x.w.cell? ⟨G + 1, q, none⟩ = some (.int .i64 Cq) := fun x => by have := (hC3.below (hx1 x) (Nat.le_refl _)).at hq5 (j := 0) (u := .int .i64 Cq) (by rw [← HCq.out]; rfl); simpa using this
                refine wp_region_loose (R := LeW) 15 158 [14] [(11, [], none)] (by kernel_rfl) (by kernel_rfl) (by kernel_rfl) (by kernel_rfl) (fun _ _ _ _ _ _ h => h) rfl LeW.refl (fun _ _ _ => LeW.trans) ?_
                simp only [Late, List.take_succ_cons, List.drop_succ_cons, List.take_zero, List.drop_zero, Nat.sub_zero]
                repeat (go_big_quiet_step (fail))
                refine wpQuiet_nil ?_
                refine late_call Try.func38 (by kernel_rfl) (by kernel_rfl) (fun x => h38 A x.w (hRx x)) rfl (by simp only [Act.put, List.setIfInBounds_toArray, List.set_cons_succ, List.set_cons_zero]; rfl) ?_
                repeat (go_big_quiet_step (fail))
                refine wpQuiet_nil ?_
                intro x
                simp only [allGens]
                have hbx := hx1 x
                have z1 : x.w.heap[g1]? = some (.cells #[.int .i64 s1.num, .int .i64 s1.unit, .int .i64 s1.rng] 37 (0, 0)) := by rw [x.h.block _ (lt_of_blk (w := wr) hg1)]; exact hg1
                have z2 : x.w.heap[g2]? = some (.cells #[.int .i64 s2.num, .int .i64 s2.unit, .int .i64 s2.rng] 37 (0, 0)) := by rw [x.h.block _ (lt_of_blk (w := wr) hg2)]; exact hg2
                have hne : g1 ≠ g2 := hne12
                have y0 := cell_of_block z1 0
                have y1 := cell_of_block z1 1
                have y2 := cell_of_block z1 2
                have y3 := free_of_block z1
                simp only [List.getElem?_toArray, List.getElem?_cons_zero, List.getElem?_cons_succ] at y0 y1 y2
                clear q0 q1 q2 q3 hRx hx1 hg1 hg2 hbr
                generalize x.w = w8 at *
                have hg1 : (((w8.setCell ⟨g1, 0, none⟩ (.int .i64 ox)).setCell ⟨g1, 1, none⟩ (.int .i64 oy)).setCell ⟨g1, 2, none⟩ (.int .i64 oz)).heap[g1]? = some (.cells #[.int .i64 ox, .int .i64 oy, .int .i64 oz] 37 (0, 0)) := block_set (block_set (block_set z1 0 _) 1 _) 2 _
                have hg2 : (((w8.setCell ⟨g1, 0, none⟩ (.int .i64 ox)).setCell ⟨g1, 1, none⟩ (.int .i64 oy)).setCell ⟨g1, 2, none⟩ (.int .i64 oz)).heap[g2]? = some (.cells #[.int .i64 s2.num, .int .i64 s2.unit, .int .i64 s2.rng] 37 (0, 0)) := by
                  rw [Below.heap_setCell _ _ _ _ (by first | exact hne | exact Ne.symm hne), Below.heap_setCell _ _ _ _ (by first | exact hne | exact Ne.symm hne), Below.heap_setCell _ _ _ _ (by first | exact hne | exact Ne.symm hne)]; exact z2
                have hbr := (hbx.setCell (p := ⟨g1, 0, none⟩) hgw1 (.int .i64 ox)).setCell (p := ⟨g1, 1, none⟩) hgw1 (.int .i64 oy) |>.setCell (p := ⟨g1, 2, none⟩) hgw1 (.int .i64 oz)
                clear z1 z2 hbx hne
                go_wp2_with fail
                clear y0 y1 y2 y3
                generalize ((w8.setCell ⟨g1, 0, none⟩ (.int .i64 ox)).setCell ⟨g1, 1, none⟩ (.int .i64 oy)).setCell ⟨g1, 2, none⟩ (.int .i64 oz) = wx at *
                have hRx : ∀ x : Beh LeW wx.drew, RowsAt x.w x.w.heap.size 10 A l.length (fun i => ((l.getD i default) : Smp).cells) := fun x => by
                  have h1 := below_trans' hbr hbr.size (Below.trans ((Below.refl _ wx).drew) x.h)
                  exact (hR3.below h1 (Nat.le_refl _)).more h1.size
                have hx1 : ∀ x : Beh LeW wx.drew, Below w3.heap.size w3 x.w := fun x => below_trans' hbr hbr.size (Below.trans ((Below.refl _ wx).drew) x.h)
                have q0 : ∀ x : Beh LeW wx.drew, x.w.cell? ⟨G, p * 3, none⟩ = some (.int .i64 Wp.ver) := fun x => by have := (hW3.below (hx1 x) (Nat.le_refl _)).at hp4 (j := 0) (u := .int .i64 Wp.ver) (by rw [← HWp.out]; rfl); simpa using this
                have q1 : ∀ x : Beh LeW wx.drew, x.w.cell? ⟨G, p * 3 + 1, none⟩ = some (.int .i64 Wp.con) := fun x => by have := (hW3.below (hx1 x) (Nat.le_refl _)).at hp4 (j := 1) (u := .int .i64 Wp.con) (by rw [← HWp.out]; rfl); simpa using this
                have q2 : ∀ x : Beh LeW wx.drew, x.w.cell? ⟨G, p * 3 + 2, none⟩ = some (.int .i64 Wp.tre) := fun x => by have := (hW3.below (hx1 x) (Nat.le_refl _)).at hp4 (j := 2) (u := .int .i64 Wp.tre) (by rw [← HWp.out]; rfl); simpa using this
                have q3 : ∀ x : Beh LeW wx.drew, x.w.cell? ⟨G + 1, q, none⟩ = some (.int .i64 Cq) := fun x => by have := (hC3.below (hx1 x) (Nat.le_refl _)).at hq5 (j := 0) (u := .int .i64 Cq) (by rw [← HCq.out]; rfl); simpa using this
                refine wp_region_loose (R := LeW) 15 158 [14] [(11, [], none)] (by kernel_rfl) (by kernel_rfl) (by kernel_rfl) (by kernel_rfl) (fun _ _ _ _ _ _ h => h) rfl LeW.refl (fun _ _ _ => LeW.trans) ?_
                simp only [Late, List.take_succ_cons, List.drop_succ_cons, List.take_zero, List.drop_zero, Nat.sub_zero]
                repeat (go_big_quiet_step (fail))
                refine wpQuiet_nil ?_
                refine late_call Try.func39 (by kernel_rfl) (by kernel_rfl) (fun x => h39 A x.w (hRx x)) rfl (by simp only [Act.put, List.setIfInBounds_toArray, List.set_cons_succ, List.set_cons_zero]; rfl) ?_
                repeat (go_big_quiet_step (fail))
                refine wpQuiet_nil ?_
                intro x
                simp only [allGens]
                have hbx := hx1 x
                have z1 : x.w.heap[g2]? = some (.cells #[.int .i64 s2.num, .int .i64 s2.unit, .int .i64 s2.rng] 37 (0, 0)) := by rw [x.h.block _ (lt_of_blk (w := wx) hg2)]; exact hg2
                have z2 : x.w.heap[g1]? = some (.cells #[.int .i64 ox, .int .i64 oy, .int .i64 oz] 37 (0, 0)) := by rw [x.h.block _ (lt_of_blk (w := wx) hg1)]; exact hg1
                have hne : g1 ≠ g2 := hne12
                have y0 := cell_of_block z1 0
                have y1 := cell_of_block z1 1
                have y2 := cell_of_block z1 2
                have y3 := free_of_block z1
                simp only [List.getElem?_toArray, List.getElem?_cons_zero, List.getElem?_cons_succ] at y0 y1 y2
                clear q0 q1 q2 q3 hRx hx1 hg1 hg2 hbr
                generalize x.w = wy at *
                have hg2 : (((wy.setCell ⟨g2, 0, none⟩ (.int .i64 ox)).setCell ⟨g2, 1, none⟩ (.int .i64 oy)).setCell ⟨g2, 2, none⟩ (.int .i64 oz)).heap[g2]? = some (.cells #[.int .i64 ox, .int .i64 oy, .int .i64 oz] 37 (0, 0)) := block_set (block_set (block_set z1 0 _) 1 _) 2 _
                have hg1 : (((wy.setCell ⟨g2, 0, none⟩ (.int .i64 ox)).setCell ⟨g2, 1, none⟩ (.int .i64 oy)).setCell ⟨g2, 2, none⟩ (.int .i64 oz)).heap[g1]? = some (.cells #[.int .i64 ox, .int .i64 oy, .int .i64 oz] 37 (0, 0)) := by
                  rw [Below.heap_setCell _ _ _ _ (by first | exact hne | exact Ne.symm hne), Below.heap_setCell _ _ _ _ (by first | exact hne | exact Ne.symm hne), Below.heap_setCell _ _ _ _ (by first | exact hne | exact Ne.symm hne)]; exact z2
                have hbr := (hbx.setCell (p := ⟨g2, 0, none⟩) hgw2 (.int .i64 ox)).setCell (p := ⟨g2, 1, none⟩) hgw2 (.int .i64 oy) |>.setCell (p := ⟨g2, 2, none⟩) hgw2 (.int .i64 oz)
                clear z1 z2 hbx hne
                have v0 := cell_of_block hg1 0
                have v1 := cell_of_block hg1 1
                have v2 := cell_of_block hg1 2
                have u0 := cell_of_block hg2 0
                have u1 := cell_of_block hg2 1
                have u2 := cell_of_block hg2 2
                simp only [List.getElem?_toArray, List.getElem?_cons_zero, List.getElem?_cons_succ] at v0 v1 v2 u0 u1 u2
                cases ob
                · go_wp2_with fail
                  go_roundg (l.length + 3 - (n + 3))
                  case measure => have := HMN.out; omega
                  case rel => exact ⟨n + 3, by omega, rfl, by go_num, hbr, ⟨⟨ox, oy, oz⟩, hg1⟩, ⟨ox, oy, oz⟩, hg2⟩
                · have hvt := hval rfl
                  go_wp2_with fail
                  refine (valid36 ox oy oz _ hbd1 hbd2).mono ?_
                  rintro e w9 ⟨rfl, hb9⟩
                  rw [hvt]
                  have hbr := below_trans' hbr hbr.size hb9
                  have hg1 : w9.heap[g1]? = some (.cells #[.int .i64 ox, .int .i64 oy, .int .i64 oz] 37 (0, 0)) := by rw [hb9.block _ (lt_of_blk hg1)]; exact hg1
                  have hg2 : w9.heap[g2]? = some (.cells #[.int .i64 ox, .int .i64 oy, .int .i64 oz] 37 (0, 0)) := by rw [hb9.block _ (lt_of_blk hg2)]; exact hg2
                  clear v0 v1 v2 u0 u1 u2 hb9
                  go_wp2_with fail
                  go_roundg (l.length + 3 - (n + 3))
                  case measure => have := HMN.out; omega
                  case rel => exact ⟨n + 3, by omega, rfl, by go_num, hbr, ⟨⟨ox, oy, oz⟩, hg1⟩, ⟨ox, oy, oz⟩, hg2⟩
              · have hend : ∀ (b : Bool), True := fun _ => trivial
                clear hend
                by_cases hnl : n < l.length
                · have hd1 : decide (n < l.length) = true := by simpa using hnl
                  have hd2 : decide ((q : Int) < 3) = false := by simp; omega
                  go_wp2_with fail
                  go_roundg (5 - (q + 1))
                  case measure => have := HMQ.out; omega
                  case rel => exact ⟨q + 1, by omega, rfl, by go_num, hbr⟩
                · have hd1 : decide (n < l.length) = false := by simpa using hnl
                  go_wp2_with fail
                  go_roundg (5 - (q + 1))
                  case measure => have := HMQ.out; omega
                  case rel => exact ⟨q + 1, by omega, rfl, by go_num, hbr⟩
          · go_wp2_with fail
            go_roundg (4 - (p + 1))
            case measure => have := HMP.out; omega
            case rel => exact ⟨p + 1, by omega, rfl, by go_num, hbr⟩
      · go_wp2_with fail
        go_ret
        exact ⟨rfl, hb.trans (hbr.mono hb.size)⟩
end Go.Proofs.Ytgonighpjpfmnaa
