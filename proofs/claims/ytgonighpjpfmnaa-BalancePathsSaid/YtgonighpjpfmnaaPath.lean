/- wealth.Path: the list of the wealths. -/
import Derived.Test.YtgonighpjpfmnaaThresh
import Derived.Test.YtgonighpjpfmnaaLate3
import Derived.Test.YtgonighpjpfmnaaScoreValid
import Derived.Test.YtgonighpjpfmnaaOfBoth
namespace Go.Proofs.Ytgonighpjpfmnaa
open Go.RowKit

def intC (x : Int) : List Value := [.int .i64 x]
theorem intC_len (x : Int) : (intC x).length = 1 := rfl
theorem info3 : (Try.prog.info? 3).map (fun i => (i.zero, i.size, i.bytes)) = some (some (.int .i64 0), 1, 8) := by kernel_rfl

def accS (x y z : Int) : Nat → Int
  | 0 => 0
  | 1 => x
  | 2 => x + y
  | _ => x + y + z
def accC (a b c x y z : Int) : Nat → Array Value
  | 0 => #[.int .i64 a, .int .i64 b, .int .i64 c]
  | 1 => #[.int .i64 x, .int .i64 b, .int .i64 c]
  | 2 => #[.int .i64 x, .int .i64 y, .int .i64 c]
  | _ => #[.int .i64 x, .int .i64 y, .int .i64 z]

theorem own_set {α : Type} {c : α → List Value} {e size : Nat} {w : World} {B g : Nat} {v : Value} {l : List α} (h : Own c e size w B v l) (hg : g < B) (j : Nat) (u : Value) : Own c e size (w.setCell ⟨g, j, none⟩ u) B v l :=
  Own.only h (only_setCell (only_refl _ _) (.inl rfl) u) hg
theorem blk_other {w : World} {g k : Nat} {o : Obj} (h : w.heap[k]? = some o) (hne : k ≠ g) (j : Nat) (u : Value) : (w.setCell ⟨g, j, none⟩ u).heap[k]? = some o := by
  rw [Below.heap_setCell _ _ _ _ hne]; exact h

set_option maxRecDepth 100000 in
set_option maxHeartbeats 2000000 in
theorem path60 (A : Option Addr) (n c : Nat) (f : Nat → Scr) (e : Int) (up : Bool) (w : World) (hn : n ≤ 1048576) (hR : RowsAt w w.heap.size 3 A n fun i => (f i).cells)
    (hf : ∀ k, k < n → -9223372036854775808 ≤ (f k).unit ∧ (f k).rng ≤ 9223372036854775807) :
    Calls Try.prog 60 #[.slice A n c, .int .i64 e, .bool up] w fun en w' => ∃ v, en = .returned v ∧ Own intC 3 1 w' w.heap.size v (pathR f e up n) ∧ Below w.heap.size w w' := by
  obtain ⟨i0, hi, hz0, hz1, hz2⟩ := info_parts info3
  have HF := Lib.hid hf
  clear hf
  have ix0 : ∀ w, (Instr.index 124 (.agg #[.int .i64 1, .int .i64 2, .int .i64 4]) (.int .i64 0)).run Try.prog w = .ok (.int .i64 1) w := fun _ => by kernel_rfl
  have ix1 : ∀ w, (Instr.index 124 (.agg #[.int .i64 1, .int .i64 2, .int .i64 4]) (.int .i64 1)).run Try.prog w = .ok (.int .i64 2) w := fun _ => by kernel_rfl
  have ix2 : ∀ w, (Instr.index 124 (.agg #[.int .i64 1, .int .i64 2, .int .i64 4]) (.int .i64 2)).run Try.prog w = .ok (.int .i64 4) w := fun _ => by kernel_rfl
  go_enter Try.func60, Try.ntmps60
  go_wp2_with fail
  have g0 : ((w.alloc (.cells #[.int .i64 1, .int .i64 2, .int .i64 4] 124)).alloc (.cells #[.int .i64 4294967296, .int .i64 4294967296, .int .i64 4294967296] 124)).heap[w.heap.size]? = some (.cells #[.int .i64 1, .int .i64 2, .int .i64 4] 124 (0, 0)) := by
    rw [Below.heap_alloc _ _ _ (by simp)]; exact heap_alloc_new w _
  have g1 : ((w.alloc (.cells #[.int .i64 1, .int .i64 2, .int .i64 4] 124)).alloc (.cells #[.int .i64 4294967296, .int .i64 4294967296, .int .i64 4294967296] 124)).heap[w.heap.size + 1]? = some (.cells #[.int .i64 4294967296, .int .i64 4294967296, .int .i64 4294967296] 124 (0, 0)) := by
    have := heap_alloc_new (w.alloc (.cells #[.int .i64 1, .int .i64 2, .int .i64 4] 124)) (.cells #[.int .i64 4294967296, .int .i64 4294967296, .int .i64 4294967296] 124)
    simpa using this
  have hb0 : Below w.heap.size w ((w.alloc (.cells #[.int .i64 1, .int .i64 2, .int .i64 4] 124)).alloc (.cells #[.int .i64 4294967296, .int .i64 4294967296, .int .i64 4294967296] 124)) := ((Below.refl _ _).alloc (Nat.le_refl _) _).alloc (by simp) _
  have hz0' : ((w.alloc (.cells #[.int .i64 1, .int .i64 2, .int .i64 4] 124)).alloc (.cells #[.int .i64 4294967296, .int .i64 4294967296, .int .i64 4294967296] 124)).heap.size = w.heap.size + 2 := by simp
  generalize ((w.alloc (.cells #[.int .i64 1, .int .i64 2, .int .i64 4] 124)).alloc (.cells #[.int .i64 4294967296, .int .i64 4294967296, .int .i64 4294967296] 124)) = w1 at *
  go_loopg [21, 9] n (fun m i v wr => ∃ k : Nat, k ≤ n ∧ m = n - k ∧ i = .int .i64 k ∧ Own intC 3 1 wr (w.heap.size + 2) v (pathR f e up k) ∧ wr.heap[w.heap.size]? = some (.cells #[.int .i64 1, .int .i64 2, .int .i64 4] 124 (0, 0)) ∧ wr.heap[w.heap.size + 1]? = some (.cells #[.int .i64 (wAt f e up 1 k), .int .i64 (wAt f e up 2 k), .int .i64 (wAt f e up 4 k)] 124 (0, 0)) ∧ w.heap.size + 2 ≤ wr.heap.size ∧ Below w.heap.size w wr)
  case atStart => exact ⟨0, by omega, by omega, rfl, Own.nil _ _ _ _ _, g0, g1, by omega, hb0⟩
  case round =>
    obtain ⟨k, hk, hmk, rfl, hown, g2, g3, hsz, hb⟩ := hrel
    have HMK := Lib.hid hmk
    clear hmk g0 g1 hb0 hz0'
    by_cases hkn : k < n
    · obtain ⟨bk, off, hA, hblt, hc⟩ := (hR.below hb (Nat.le_refl _)) (by omega)
      cases hA
      have v0 := hc k hkn 0 _ rfl
      have v1 := hc k hkn 1 _ rfl
      have v2 := hc k hkn 2 _ rfl
      simp only [Nat.add_zero] at v0
      obtain ⟨u1, u2⟩ := HF.out k hkn
      have x0 := cell_of_block g2 0
      have x1 := cell_of_block g2 1
      have x2 := cell_of_block g2 2
      simp only [List.getElem?_toArray, List.getElem?_cons_zero, List.getElem?_cons_succ] at x0 x1 x2
      have hblr : bk < wr.heap.size := by omega
      have hl0 : w.heap.size < wr.heap.size := by omega
      have hl1 : w.heap.size + 1 < wr.heap.size := by omega
      go_wp2_with fail
      have g4 := heap_alloc_new wr (.cells #[.int .i64 (f k).num, .int .i64 (f k).unit, .int .i64 (f k).rng] 37)
      have hb2 := hb.alloc hb.size (.cells #[.int .i64 (f k).num, .int .i64 (f k).unit, .int .i64 (f k).rng] 37)
      have hwr : Below wr.heap.size wr (wr.alloc (.cells #[.int .i64 (f k).num, .int .i64 (f k).unit, .int .i64 (f k).rng] 37)) := (Below.refl _ _).alloc (Nat.le_refl _) _
      have hown2 := Own.below hown hwr
      rw [← hwr.block _ hl0] at g2
      rw [← hwr.block _ hl1] at g3
      have hsz2 : wr.heap.size < (wr.alloc (.cells #[.int .i64 (f k).num, .int .i64 (f k).unit, .int .i64 (f k).rng] 37)).heap.size := lt_of_blk g4
      generalize wr.alloc (.cells #[.int .i64 (f k).num, .int .i64 (f k).unit, .int .i64 (f k).rng] 37) = w2 at *
      clear v0 v1 v2 x0 x1 x2 hown hb hwr hc hblt hblr
      generalize wr.heap.size = G at *
      have e1 : wAt f e up 1 (k + 1) = growI (wAt f e up 1 k) (facN (f k).num (f k).unit (f k).rng e 1 up) (facD (f k).num (f k).unit (f k).rng e 1) := rfl
      have e2 : wAt f e up 2 (k + 1) = growI (wAt f e up 2 k) (facN (f k).num (f k).unit (f k).rng e 2 up) (facD (f k).num (f k).unit (f k).rng e 2) := rfl
      have e4 : wAt f e up 4 (k + 1) = growI (wAt f e up 4 k) (facN (f k).num (f k).unit (f k).rng e 4 up) (facD (f k).num (f k).unit (f k).rng e 4) := rfl
      have wb1 := wAt_bd f e up 1 k
      have wb2 := wAt_bd f e up 2 k
      have wb4 := wAt_bd f e up 4 k
      have wc1 := wAt_bd f e up 1 (k + 1)
      have wc2 := wAt_bd f e up 2 (k + 1)
      have wc4 := wAt_bd f e up 4 (k + 1)
      have hmean : meanAt f e up (k + 1) = (wAt f e up 1 (k + 1) + wAt f e up 2 (k + 1) + wAt f e up 4 (k + 1)) / 3 := rfl
      have hpath := pathR_succ f e up k
      rw [hmean] at hpath
      have HP := Lib.hid hpath
      have E1 := Lib.hid e1
      have E2 := Lib.hid e2
      have E4 := Lib.hid e4
      clear hpath hmean e1 e2 e4
      generalize hY1 : wAt f e up 1 (k + 1) = y1 at *
      generalize hY2 : wAt f e up 2 (k + 1) = y2 at *
      generalize hY4 : wAt f e up 4 (k + 1) = y4 at *
      have Y1 := Lib.hid hY1
      have Y2 := Lib.hid hY2
      have Y4 := Lib.hid hY4
      clear hY1 hY2 hY4
      have hLl := pathR_len f e up k
      generalize pathR f e up k = L at *
      generalize hA1 : wAt f e up 1 k = a1 at *
      generalize hA2 : wAt f e up 2 k = a2 at *
      generalize hA4 : wAt f e up 4 k = a4 at *
      have hfb1 := fac_bd (f k).num (f k).unit (f k).rng e 1 up
      have hfb2 := fac_bd (f k).num (f k).unit (f k).rng e 2 up
      have hfb4 := fac_bd (f k).num (f k).unit (f k).rng e 4 up
      generalize f k = q at *
      generalize hn1 : facN q.num q.unit q.rng e 1 up = n1 at *
      generalize hn2 : facN q.num q.unit q.rng e 2 up = n2 at *
      generalize hn4 : facN q.num q.unit q.rng e 4 up = n4 at *
      generalize hd1 : facD q.num q.unit q.rng e 1 = d1 at *
      generalize hd2 : facD q.num q.unit q.rng e 2 = d2 at *
      generalize hd4 : facD q.num q.unit q.rng e 4 = d4 at *
      have N1 := Lib.hid hn1
      have N2 := Lib.hid hn2
      have N4 := Lib.hid hn4
      have D1 := Lib.hid hd1
      have D2 := Lib.hid hd2
      have D4 := Lib.hid hd4
      clear hn1 hn2 hn4 hd1 hd2 hd4 hA1 hA2 hA4
      go_loopg [26, 12] 3 (fun m i s wi => ∃ j : Nat, j ≤ 3 ∧ m = 3 - j ∧ i = .int .i64 j ∧ s = .int .i64 (accS y1 y2 y4 j) ∧ Own intC 3 1 wi (w.heap.size + 2) u9 L ∧ wi.heap[w.heap.size]? = some (.cells #[.int .i64 1, .int .i64 2, .int .i64 4] 124 (0, 0)) ∧ wi.heap[w.heap.size + 1]? = some (.cells (accC a1 a2 a4 y1 y2 y4 j) 124 (0, 0)) ∧ wi.heap[G]? = some (.cells #[.int .i64 q.num, .int .i64 q.unit, .int .i64 q.rng] 37 (0, 0)) ∧ Below w.heap.size w wi)
      case atStart => exact ⟨0, by omega, by omega, rfl, rfl, hown2, g2, g3, g4, hb2⟩
      case round =>
        obtain ⟨j, hj, hmj, rfl, rfl, hown, h2, h3, h4, hbi⟩ := hrel
        have HMJ := Lib.hid hmj
        clear hmj g2 g3 g4 hown2 hb2 hsz2
        have y0 := cell_of_block h4 0
        have y1' := cell_of_block h4 1
        have y2' := cell_of_block h4 2
        simp only [List.getElem?_toArray, List.getElem?_cons_zero, List.getElem?_cons_succ] at y0 y1' y2'
        have hj4 : j = 0 ∨ j = 1 ∨ j = 2 ∨ j = 3 := by omega
        rcases hj4 with rfl | rfl | rfl | rfl
        · simp only [accC] at h3
          simp only [accS, show ((0 : Nat) : Int) = 0 from rfl]
          go_wp2_with fail
          refine (fac47 q.num q.unit q.rng e 1 up _ (by omega) (by omega)).mono ?_
          rintro en wa ⟨rfl, hba⟩
          rw [N1.out, D1.out]
          have hown := Own.below hown hba
          rw [← hba.block _ (lt_of_blk h2)] at h2
          rw [← hba.block _ (lt_of_blk h3)] at h3
          rw [← hba.block _ (lt_of_blk h4)] at h4
          have hbi := below_trans' hbi hbi.size hba
          have x0 := cell_of_block h3 0
          simp only [List.getElem?_toArray, List.getElem?_cons_zero] at x0
          clear hba y0 y1' y2'
          go_wp2_with fail
          refine (grow45 a1 n1 d1 _ (by omega) (by omega)).mono ?_
          rintro en _ ⟨rfl, mm, rfl⟩
          rw [← E1.out]
          have hown := Own.below hown (below_drewN (Below.refl _ wa) mm)
          replace h2 : (wa.drewN mm).heap[w.heap.size]? = _ := h2
          replace h3 : (wa.drewN mm).heap[w.heap.size + 1]? = _ := h3
          replace h4 : (wa.drewN mm).heap[G]? = _ := h4
          replace hbi := below_drewN hbi mm
          clear x0
          generalize wa.drewN mm = wd at *
          have x0 := cell_of_block h3 0
          have z0 := free_of_block h3 0
          simp only [List.getElem?_toArray, List.getElem?_cons_zero] at x0
          go_wp2_with fail
          go_roundg 2
          case measure => have := HMJ.out; omega
          case rel => exact ⟨1, by omega, rfl, rfl, rfl, own_set hown (by omega) _ _, blk_other h2 (by omega) _ _, block_set h3 0 _, blk_other h4 (by omega) _ _, hbi.setCell (by simp) _⟩
        · simp only [accC] at h3
          simp only [accS, show ((1 : Nat) : Int) = 1 from rfl]
          go_wp2_with fail
          refine (fac47 q.num q.unit q.rng e 2 up _ (by omega) (by omega)).mono ?_
          rintro en wa ⟨rfl, hba⟩
          rw [N2.out, D2.out]
          have hown := Own.below hown hba
          rw [← hba.block _ (lt_of_blk h2)] at h2
          rw [← hba.block _ (lt_of_blk h3)] at h3
          rw [← hba.block _ (lt_of_blk h4)] at h4
          have hbi := below_trans' hbi hbi.size hba
          have x0 := cell_of_block h3 1
          simp only [List.getElem?_toArray, List.getElem?_cons_zero, List.getElem?_cons_succ] at x0
          clear hba y0 y1' y2'
          go_wp2_with fail
          refine (grow45 a2 n2 d2 _ (by omega) (by omega)).mono ?_
          rintro en _ ⟨rfl, mm, rfl⟩
          rw [← E2.out]
          have hown := Own.below hown (below_drewN (Below.refl _ wa) mm)
          replace h2 : (wa.drewN mm).heap[w.heap.size]? = _ := h2
          replace h3 : (wa.drewN mm).heap[w.heap.size + 1]? = _ := h3
          replace h4 : (wa.drewN mm).heap[G]? = _ := h4
          replace hbi := below_drewN hbi mm
          clear x0
          generalize wa.drewN mm = wd at *
          have x0 := cell_of_block h3 1
          have z0 := free_of_block h3 1
          simp only [List.getElem?_toArray, List.getElem?_cons_zero, List.getElem?_cons_succ] at x0
          go_wp2_with fail
          go_roundg 1
          case measure => have := HMJ.out; omega
          case rel => exact ⟨2, by omega, rfl, rfl, rfl, own_set hown (by omega) _ _, blk_other h2 (by omega) _ _, block_set h3 1 _, blk_other h4 (by omega) _ _, hbi.setCell (by simp) _⟩
        · simp only [accC] at h3
          simp only [accS, show ((2 : Nat) : Int) = 2 from rfl]
          go_wp2_with fail
          refine (fac47 q.num q.unit q.rng e 4 up _ (by omega) (by omega)).mono ?_
          rintro en wa ⟨rfl, hba⟩
          rw [N4.out, D4.out]
          have hown := Own.below hown hba
          rw [← hba.block _ (lt_of_blk h2)] at h2
          rw [← hba.block _ (lt_of_blk h3)] at h3
          rw [← hba.block _ (lt_of_blk h4)] at h4
          have hbi := below_trans' hbi hbi.size hba
          have x0 := cell_of_block h3 2
          simp only [List.getElem?_toArray, List.getElem?_cons_zero, List.getElem?_cons_succ] at x0
          clear hba y0 y1' y2'
          go_wp2_with fail
          refine (grow45 a4 n4 d4 _ (by omega) (by omega)).mono ?_
          rintro en _ ⟨rfl, mm, rfl⟩
          rw [← E4.out]
          have hown := Own.below hown (below_drewN (Below.refl _ wa) mm)
          replace h2 : (wa.drewN mm).heap[w.heap.size]? = _ := h2
          replace h3 : (wa.drewN mm).heap[w.heap.size + 1]? = _ := h3
          replace h4 : (wa.drewN mm).heap[G]? = _ := h4
          replace hbi := below_drewN hbi mm
          clear x0
          generalize wa.drewN mm = wd at *
          have x0 := cell_of_block h3 2
          have z0 := free_of_block h3 2
          simp only [List.getElem?_toArray, List.getElem?_cons_zero, List.getElem?_cons_succ] at x0
          go_wp2_with fail
          go_roundg 0
          case measure => have := HMJ.out; omega
          case rel => exact ⟨3, by omega, rfl, rfl, rfl, own_set hown (by omega) _ _, blk_other h2 (by omega) _ _, block_set h3 2 _, blk_other h4 (by omega) _ _, hbi.setCell (by simp) _⟩
        · simp only [accC] at h3
          simp only [accS, show ((3 : Nat) : Int) = 3 from rfl]
          clear y0 y1' y2' h4
          obtain ⟨A9, cp, rfl, hcp⟩ := Own.shape hown
          have hsz3 : w.heap.size + 2 ≤ wr.heap.size := lt_of_blk h3
          go_wp2_with (at_builtin; refine wpList_append_lies _ (by rfl) (.tmp 52) (.tmp 55) 44 (by rfl) (w.heap.size + 2) 3 i0 _ 1 8 Try.underlying44 hi hz0 hz1 hz2 rfl (by omega) _ _ _ (by rfl) (World.ownsRow.alloc hown _) ⟨wr.heap.size, 0, none⟩ 1 1 [.int .i64 ((y1 + y2 + y4) / 3)] (by rfl) (by rfl) (World.news_of_block (heap_alloc_new wr (.cells #[.int .i64 ((y1 + y2 + y4) / 3)] 3))) (by simp [Value.oneCell']) (by omega) (by unfold maxLen; omega) (by omega) (by simp; omega) (wr.heap.size + 1) (by simp) ?_; intro g' cap' w6 hown6 hgrow hat hlt6)
          have hrow : ∀ q, (Value.slice A9 L.length cp).ownBlock = some q → w.heap.size + 2 ≤ q := fun q hq => (World.ownsRow.lt hown q hq).1
          have hb6 : Below w.heap.size w w6 := (hbi.alloc hbi.size _).grown hgrow (by simp; omega) (fun q hq => by have := hrow q hq; omega)
          have h2' : w6.heap[w.heap.size]? = some (.cells #[.int .i64 1, .int .i64 2, .int .i64 4] 124 (0, 0)) := by
            rw [hgrow.block _ (by simp; omega) (fun h => by have := hrow _ h.symm; omega), Below.heap_alloc _ _ _ (by omega)]; exact h2
          have h3' : w6.heap[w.heap.size + 1]? = some (.cells #[.int .i64 y1, .int .i64 y2, .int .i64 y4] 124 (0, 0)) := by
            rw [hgrow.block _ (by simp; omega) (fun h => by have := hrow _ h.symm; omega), Below.heap_alloc _ _ _ (by omega)]; exact h3
          have ho : Own intC 3 1 w6 (w.heap.size + 2) (.slice (some ⟨g', 0, none⟩) (L.length + 1) cap') (L ++ [(y1 + y2 + y4) / 3]) := Own.snoc (c := intC) hown6
          rw [hLl] at ho
          have hsz6 : w.heap.size + 2 ≤ w6.heap.size := by have := hgrow.size; simp at this; omega
          clear hown6 hgrow hat hown h2 h3
          go_roundg (n - (k + 1))
          case measure => have := HMK.out; omega
          case rel => exact ⟨k + 1, by omega, rfl, by go_num, by rw [HP.out]; exact ho, h2', by rw [Y1.out, Y2.out, Y4.out]; exact h3', hsz6, hb6⟩
    · go_wp2_with fail
      go_ret
      obtain rfl : k = n := by omega
      exact ⟨_, rfl, Own.mono hown (by omega), hb⟩
end Go.Proofs.Ytgonighpjpfmnaa
