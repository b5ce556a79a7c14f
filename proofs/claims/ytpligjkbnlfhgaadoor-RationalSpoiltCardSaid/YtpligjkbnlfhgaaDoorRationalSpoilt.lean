/- The walk of RationalSpoilt. -/
import Derived.Test.YtpligjkbnlfhgaaDoorSpoA
import Derived.OpenShut
import Derived.ShutString
namespace Go.Proofs.YtpligjkbnlfhgaaDoor
open Go.RowKit

theorem spo_other {w : World} {g h i : Nat} {x : Value} (hne : g ≠ h) : (w.setCell ⟨g, i, none⟩ x).heap[h]? = w.heap[h]? := Below.heap_setCell w ⟨g, i, none⟩ x h (Ne.symm hne)
theorem by_set {w : World} {g c n k : Nat} {l : List UInt8} (h : ByS w g c l) (hn : l.length = n) (hk : k < n) (b : UInt8) : ByB (w.setCell ⟨g, k, none⟩ (.int .u8 (b.toNat : Int))) g (l.set k b) := fun j b' hj => by
  rw [List.getElem?_set] at hj
  split at hj
  · rename_i e
    subst e
    split at hj
    · injection hj with hj
      subst hj
      exact World.cell?_setCell_same' w _ _ (h.has (by have := h.le; omega))
    · cases hj
  · rename_i e
    rw [World.cell?_setCell_other (h := fun e' => by injection e' with _ e2; omega)]
    exact h.cells j b' hj
theorem ByB.far {w : World} {g g' k : Nat} {l : List UInt8} {v : Value} (h : ByB w g l) (hne : g' ≠ g) : ByB (w.setCell ⟨g', k, none⟩ v) g l := fun j b hj => by
  rw [World.cell?_setCell_other (h := fun e' => by injection e' with e2; exact hne e2)]
  exact h j b hj
theorem ByB.grown {w w' : World} {g : Nat} {l : List UInt8} {row : Option Nat} (h : ByB w g l) (hg : w.grownBy w' row) (hlt : g < w.heap.size) (hne : row ≠ some g) : ByB w' g l := fun j b hj => by
  have := h j b hj
  unfold World.cell? at this ⊢
  rw [hg.block g hlt (fun e => hne e.symm)]
  exact this
theorem ByB.take {w : World} {g n : Nat} {l : List UInt8} (h : ByB w g l) : ByB w g (l.take n) := fun j b hj => by
  rw [List.getElem?_take] at hj
  split at hj
  · exact h j b hj
  · cases hj
theorem ByS.grown {w w' : World} {g c : Nat} {l : List UInt8} {row : Option Nat} (h : ByS w g c l) (hg : w.grownBy w' row) (hne : row ≠ some g) : ByS w' g c l := by
  obtain ⟨cur, fz, h1, h2, h3⟩ := h.blk
  exact ⟨⟨cur, fz, by rw [hg.block g h.lt (fun e => hne e.symm)]; exact h1, h2, h3⟩, h.cells.grown hg h.lt hne, h.le⟩
theorem by_back {w : World} {g c n : Nat} {l : List UInt8} (h : ByB w g l) (hn : l.length = n) : (convert 36 9 (.slice (some ⟨g, 0, none⟩) n c)).run Tryd.prog w = .ok (.string ⟨l.toArray⟩) w := by
  subst hn
  exact run_convert_bytes_back w 36 9 5 ⟨g, 0, none⟩ c l Tryd.underlying36 Tryd.underlying5 Tryd.underlying9 fun j hj => by
    rw [Go.WideShapes.add_plain, Nat.zero_add]
    exact h j _ (List.getElem?_eq_getElem hj)
theorem u8_byte {c : Int} (h : 0 ≤ c ∧ c ≤ 255) : ∃ b : UInt8, c = (b.toNat : Int) := ⟨UInt8.ofNat c.toNat, by
  have : (UInt8.ofNat c.toNat).toNat = c.toNat := by rw [UInt8.toNat_ofNat']; omega
  rw [this]; omega⟩

set_option maxRecDepth 100000 in
set_option maxHeartbeats 16000000 in
theorem rationalSpoilt5 (a0 a1 a2 a3 a4 : Int) (w : World) (w0 : (Lit.int .i64 a0).wf = true) (w1 : (Lit.int .i64 a1).wf = true) (w2 : (Lit.int .u8 a2).wf = true) (w3 : (Lit.int .u8 a3).wf = true) (w4 : (Lit.int .u8 a4).wf = true) :
    Calls Tryd.prog 5 #[.int .i64 a0, .int .i64 a1, .int .u8 a2, .int .u8 a3, .int .u8 a4] w fun e w' => e = .returned (.bool true) ∧ Below w.heap.size w w' := by
  have b0 := bounds_i64 w0
  have b1 := bounds_i64 w1
  have b2 := bounds_u8 w2
  have b3 := bounds_u8 w3
  obtain ⟨cb, rfl⟩ := u8_byte (bounds_u8 w4)
  have hcv := fun w s => run_bytes_of_string (P := Tryd.prog) w 9 36 5 s Tryd.underlying9 Tryd.underlying36 Tryd.underlying5
  have hO := Lib.hid (fun w => of18 a0 a1 w b0.1 b0.2 b1.1 b1.2)
  clear w0 w1 w2 w3 w4 b0 b1
  go_enter Tryd.func5, Tryd.ntmps5
  go_wp2_with fail
  refine (awake17 w).mono ?_
  rintro e u0 ⟨rfl, hb0⟩
  go_wp2_with fail
  refine (hO.out u0).mono ?_
  rintro e u1 ⟨N, D, rfl, hT, hb1⟩
  have hsz := hT.size
  have hlens := hT.lens
  have hf : formB N.data.toList D.data.toList = true := by rw [← (rd_form (N := N.data.toList) (D := D.data.toList)).1, hT.rd]; rfl
  have hD0 : 0 < D.size := by
    refine Nat.pos_of_ne_zero fun h => ?_
    have h1 := (formB_iff.1 hf).2.1
    have h2 : D.data.toList = [] := by
      have : D.data.toList.length = 0 := by simpa using h
      exact List.length_eq_zero_iff.1 this
    rw [h2] at h1
    exact absurd h1 (by decide)
  have V1 := Lib.hid (fun w => by have := valid23 N D w hlens.1 hlens.2; rw [hf] at this; exact this)
  have hst := below_trans' hb1 hb1.size ((Below.refl u1.heap.size u1).alloc (Nat.le_refl _) (.cells #[.string N, .string D] 23))
  have t1 := heap_alloc_new u1 (.cells #[.string N, .string D] 23)
  have hbr := below_trans' hb0 hb0.size hst
  have k1 := cells2 t1
  have t1' := t1
  clear hT hlens hf hO hst hb1 hb0
  go_upto_region 4 with fail
  generalize u1.alloc (.cells #[.string N, .string D] 23) = v1 at *
  generalize u1.heap.size = G at *
  have x1 : ByS (((v1.alloc (.cells (bytesRow N (grownCap v1 N.size 0 5)) 5 ((bytesRow N (grownCap v1 N.size 0 5)).size, (bytesRow N (grownCap v1 N.size 0 5)).size + 1))).drew)) v1.heap.size (grownCap v1 N.size 0 5) N.data.toList := bys_of v1 N
  have x0 : Below v1.heap.size v1 (((v1.alloc (.cells (bytesRow N (grownCap v1 N.size 0 5)) 5 ((bytesRow N (grownCap v1 N.size 0 5)).size, (bytesRow N (grownCap v1 N.size 0 5)).size + 1))).drew)) := ((Below.refl v1.heap.size v1).alloc (Nat.le_refl _) _).drew
  have hbr0 := hbr
  replace hbr := below_trans' hbr hbr.size x0
  replace t1 := blk_below x0 t1
  have k2 := cells2 t1
  have hGx : G < v1.heap.size := lt_of_blk t1'
  have hwx : w.heap.size ≤ v1.heap.size := hbr0.size
  go_upto_region 5 with fail
  clear k1 t1' hbr0
  generalize ((v1.alloc (.cells (bytesRow N (grownCap v1 N.size 0 5)) 5 ((bytesRow N (grownCap v1 N.size 0 5)).size, (bytesRow N (grownCap v1 N.size 0 5)).size + 1))).drew) = v2 at *
  generalize grownCap v1 N.size 0 5 = cx at *
  generalize v1.heap.size = gx at *
  have y1 : ByS (((v2.alloc (.cells (bytesRow D (grownCap v2 D.size 0 5)) 5 ((bytesRow D (grownCap v2 D.size 0 5)).size, (bytesRow D (grownCap v2 D.size 0 5)).size + 1))).drew)) v2.heap.size (grownCap v2 D.size 0 5) D.data.toList := bys_of v2 D
  have y0 : Below v2.heap.size v2 (((v2.alloc (.cells (bytesRow D (grownCap v2 D.size 0 5)) 5 ((bytesRow D (grownCap v2 D.size 0 5)).size, (bytesRow D (grownCap v2 D.size 0 5)).size + 1))).drew)) := ((Below.refl v2.heap.size v2).alloc (Nat.le_refl _) _).drew
  have hxy : gx < v2.heap.size := x1.lt
  replace hbr := below_trans' hbr hbr.size y0
  replace t1 := blk_below y0 t1
  replace x1 := x1.below y0
  go_upto_block 0 with fail
  clear k2
  generalize ((v2.alloc (.cells (bytesRow D (grownCap v2 D.size 0 5)) 5 ((bytesRow D (grownCap v2 D.size 0 5)).size, (bytesRow D (grownCap v2 D.size 0 5)).size + 1))).drew) = v3 at *
  generalize grownCap v2 D.size 0 5 = cy at *
  generalize v2.heap.size = gy at *
  clear x0 y0
  have hNl : N.data.toList.length = N.size := by simp
  have hDl : D.data.toList.length = D.size := by simp
  have xl := x1.lt
  have yl := y1.lt
  have hwy : w.heap.size ≤ gy := by omega
  have hxy' : ¬ gx = gy := by omega
  have hyx' : ¬ gy = gx := by omega
  have hs8 : a2 % 8 = 0 ∨ a2 % 8 = 1 ∨ a2 % 8 = 2 ∨ a2 % 8 = 3 ∨ a2 % 8 = 4 ∨ a2 % 8 = 5 ∨ a2 % 8 = 6 ∨ a2 % 8 = 7 := by omega
  have hidx : ∀ n : Nat, 0 < n → ∃ i : Nat, a3.tmod (n : Int) = (i : Int) ∧ i < n := fun n hn => by
    have h1 := Int.tmod_nonneg (n : Int) b3.1
    have h2 := Int.tmod_lt_of_pos a3 (show (0 : Int) < n by omega)
    exact ⟨(a3.tmod (n : Int)).toNat, by omega, by omega⟩
  have HI := Lib.hid hidx
  have T1 := Lib.hid t1
  have X1 := Lib.hid x1
  have Y1 := Lib.hid y1
  have HN := Lib.hid hNl
  have HD := Lib.hid hDl
  have HS := Lib.hid hsz
  have hN1 : N.size ≤ 999 := by omega
  have hD1 : D.size ≤ 999 := by omega
  have hN0 := hsz.2.2
  clear hidx t1 x1 y1 hNl hDl hsz
  go_cut [12, 13] from 27 to 84 (fun s12 s13 wx => ∃ (gx nx cx gy ny cy : Nat) (lx ly : List UInt8), s12 = .slice (some ⟨gx, 0, none⟩) nx cx ∧ s13 = .slice (some ⟨gy, 0, none⟩) ny cy ∧ lx.length = nx ∧ ly.length = ny ∧ nx ≤ 1000 ∧ ny ≤ 1000 ∧ ByB wx gx lx ∧ ByB wx gy ly ∧ wx.heap[G]? = some (.cells #[.string N, .string D] 23 (0, 0)) ∧ Below w.heap.size w wx)
  case first =>
    have x1 := X1.out
    have y1 := Y1.out
    have t1 := T1.out
    rcases hs8 with h | h | h | h | h | h | h | h
    · obtain ⟨i, hi1, hi2⟩ := HI.out N.size hN0
      have hnz : ¬ (N.size : Int) = 0 := by omega
      have hxc : ∃ u, v3.cell? ⟨gx, i, none⟩ = some u := Option.isSome_iff_exists.1 (x1.has (by have := x1.le; have := HN.out; omega))
      obtain ⟨u, hu⟩ := hxc
      have hfr := x1.free (j := i) (by have := x1.le; have := HN.out; omega)
      go_wp2_with fail
      go_meet
      case rel => exact ⟨gx, N.size, cx, gy, D.size, cy, N.data.toList.set i cb, D.data.toList, rfl, rfl, by simp, by simp, by omega, by omega, by_set x1 HN.out hi2 cb, y1.cells.far hxy', (spo_other (by omega)).trans t1, hbr.setCell (p := ⟨gx, i, none⟩) hwx _⟩
    · obtain ⟨i, hi1, hi2⟩ := HI.out D.size hD0
      have hnz : ¬ (D.size : Int) = 0 := by omega
      have hxc : ∃ u, v3.cell? ⟨gy, i, none⟩ = some u := Option.isSome_iff_exists.1 (y1.has (by have := y1.le; have := HD.out; omega))
      obtain ⟨u, hu⟩ := hxc
      have hfr := y1.free (j := i) (by have := y1.le; have := HD.out; omega)
      go_wp2_with fail
      go_meet
      case rel => exact ⟨gx, N.size, cx, gy, D.size, cy, N.data.toList, D.data.toList.set i cb, rfl, rfl, by simp, by simp, by omega, by omega, x1.cells.far hyx', by_set y1 HD.out hi2 cb, (spo_other (by omega)).trans t1, hbr.setCell (p := ⟨gy, i, none⟩) hwy _⟩
    · have hA := (Below.refl v3.heap.size v3).alloc (Nat.le_refl _) (.cells #[.int .u8 45] 5)
      obtain ⟨g', c', w6, hr, hB, hg⟩ := append_front (w := v3.alloc (.cells #[.int .u8 45] 5)) (gl := v3.heap.size) (b := 45) (c := cx) (heap_alloc_new v3 (.cells #[.int .u8 45] 5)) (x1.cells.below hA x1.lt) HN.out (by omega)
      have hsz3 := hbr.size
      have K6 : Hid (w6.heap[G]? = some (.cells #[.string N, .string D] 23 (0, 0)) ∧ Below w.heap.size w w6) := Lib.hid ⟨by rw [hg.block G (by simp; omega) (fun e => by injection e with e; omega)]; exact blk_below hA t1, (hbr.alloc hbr.size (.cells #[.int .u8 45] 5)).grown hg (by simp; omega) (fun k hk => by injection hk with hk; omega)⟩
      go_wp2_with (at_builtin; refine wpList_append_ok (by rfl) (.tmp 50) (.tmp 51) 36 (by rfl) (by rfl) (by rfl) hr ?_)
      go_meet
      case rel => exact ⟨g', N.size + 1, c', gy, D.size, cy, 45 :: N.data.toList, D.data.toList, rfl, rfl, by simp, by simp, by omega, by omega, hB, ((y1.below hA).grown hg (by intro e; injection e with e; omega)).cells, K6.out.1, K6.out.2⟩
    · have hA := (Below.refl v3.heap.size v3).alloc (Nat.le_refl _) (.cells #[.int .u8 48] 5)
      obtain ⟨g', c', w6, hr, hB, hg⟩ := append_front (w := v3.alloc (.cells #[.int .u8 48] 5)) (gl := v3.heap.size) (b := 48) (c := cx) (heap_alloc_new v3 (.cells #[.int .u8 48] 5)) (x1.cells.below hA x1.lt) HN.out (by omega)
      have hsz3 := hbr.size
      have K6 : Hid (w6.heap[G]? = some (.cells #[.string N, .string D] 23 (0, 0)) ∧ Below w.heap.size w w6) := Lib.hid ⟨by rw [hg.block G (by simp; omega) (fun e => by injection e with e; omega)]; exact blk_below hA t1, (hbr.alloc hbr.size (.cells #[.int .u8 48] 5)).grown hg (by simp; omega) (fun k hk => by injection hk with hk; omega)⟩
      go_wp2_with (at_builtin; refine wpList_append_ok (by rfl) (.tmp 55) (.tmp 56) 36 (by rfl) (by rfl) (by rfl) hr ?_)
      go_meet
      case rel => exact ⟨g', N.size + 1, c', gy, D.size, cy, 48 :: N.data.toList, D.data.toList, rfl, rfl, by simp, by simp, by omega, by omega, hB, ((y1.below hA).grown hg (by intro e; injection e with e; omega)).cells, K6.out.1, K6.out.2⟩
    · have hA := (Below.refl v3.heap.size v3).alloc (Nat.le_refl _) (.cells #[.int .u8 48] 5)
      obtain ⟨g', c', w6, hr, hB, hg⟩ := append_front (w := v3.alloc (.cells #[.int .u8 48] 5)) (gl := v3.heap.size) (b := 48) (c := cy) (heap_alloc_new v3 (.cells #[.int .u8 48] 5)) (y1.cells.below hA y1.lt) HD.out (by omega)
      have hsz3 := hbr.size
      have K6 : Hid (w6.heap[G]? = some (.cells #[.string N, .string D] 23 (0, 0)) ∧ Below w.heap.size w w6) := Lib.hid ⟨by rw [hg.block G (by simp; omega) (fun e => by injection e with e; omega)]; exact blk_below hA t1, (hbr.alloc hbr.size (.cells #[.int .u8 48] 5)).grown hg (by simp; omega) (fun k hk => by injection hk with hk; omega)⟩
      go_wp2_with (at_builtin; refine wpList_append_ok (by rfl) (.tmp 60) (.tmp 61) 36 (by rfl) (by rfl) (by rfl) hr ?_)
      go_meet
      case rel => exact ⟨gx, N.size, cx, g', D.size + 1, c', N.data.toList, 48 :: D.data.toList, rfl, rfl, by simp, by simp, by omega, by omega, ((x1.below hA).grown hg (by intro e; injection e with e; omega)).cells, hB, K6.out.1, K6.out.2⟩
    · have hA := (Below.refl v3.heap.size v3).alloc (Nat.le_refl _) (.cells #[.int .u8 48] 5)
      obtain ⟨g1, c1, w5, hr1, hB1, hg1, he1, hlt1⟩ := append_back (w := v3.alloc (.cells #[.int .u8 48] 5)) (gl := v3.heap.size) (b := 48) (heap_alloc_new v3 (.cells #[.int .u8 48] 5)) (x1.below hA) HN.out (by omega)
      have hsz1 := hg1.size
      have hsz0 : (v3.alloc (.cells #[.int .u8 48] 5)).heap.size = v3.heap.size + 1 := by simp
      have y5 := (y1.below hA).grown hg1 (by intro e; injection e with e; omega)
      have hA5 := (Below.refl w5.heap.size w5).alloc (Nat.le_refl _) (.cells #[.int .u8 48] 5)
      obtain ⟨g2, c2, w6, hr2, hB2, hg2, he2, hlt2⟩ := append_back (w := w5.alloc (.cells #[.int .u8 48] 5)) (gl := w5.heap.size) (b := 48) (heap_alloc_new w5 (.cells #[.int .u8 48] 5)) (y5.below hA5) HD.out (by omega)
      have hsz3 := hbr.size
      have hb5 := (hbr.alloc hbr.size (.cells #[.int .u8 48] 5)).grown hg1 (by simp; omega) (fun k hk => by injection hk with hk; omega)
      have ht5 : w5.heap[G]? = some (.cells #[.string N, .string D] 23 (0, 0)) := by rw [hg1.block G (by simp; omega) (fun e => by injection e with e; omega)]; exact blk_below hA t1
      have K6 : Hid (w6.heap[G]? = some (.cells #[.string N, .string D] 23 (0, 0)) ∧ Below w.heap.size w w6) := Lib.hid ⟨by rw [hg2.block G (by simp; omega) (fun e => by injection e with e; omega)]; exact blk_below hA5 ht5, (hb5.alloc hb5.size (.cells #[.int .u8 48] 5)).grown hg2 (by simp; omega) (fun k hk => by injection hk with hk; omega)⟩
      have hx6 := (hB1.below hA5 hlt1).grown hg2 (by simp; omega) (by intro e; injection e with e; omega)
      clear hsz0 hsz1
      go_wp2_with (at_builtin; first
        | refine wpList_append_ok (by rfl) (.tmp 65) (.tmp 66) 36 (by rfl) (by rfl) (by rfl) hr1 ?_
        | refine wpList_append_ok (by rfl) (.tmp 68) (.tmp 69) 36 (by rfl) (by rfl) (by rfl) hr2 ?_)
      go_meet
      case rel => exact ⟨g1, N.size + 1, c1, g2, D.size + 1, c2, N.data.toList ++ [48], D.data.toList ++ [48], rfl, rfl, by simp, by simp, by omega, by omega, hx6, hB2, K6.out.1, K6.out.2⟩
    · obtain ⟨i, hi1, hi2⟩ := HI.out N.size hN0
      have hnz : ¬ (N.size : Int) = 0 := by omega
      have hic : i ≤ cx := by have := x1.le; have := HN.out; omega
      go_wp2_with fail
      go_meet
      case rel => exact ⟨gx, i, cx, gy, D.size, cy, N.data.toList.take i, D.data.toList, rfl, rfl, by simp; omega, by simp, by omega, by omega, x1.cells.take, y1.cells, t1, hbr⟩
    · have hA := (Below.refl v3.heap.size v3).alloc (Nat.le_refl _) (.cells #[.int .u8 45] 5)
      obtain ⟨g', c', w6, hr, hB, hg⟩ := append_front (w := v3.alloc (.cells #[.int .u8 45] 5)) (gl := v3.heap.size) (b := 45) (c := cy) (heap_alloc_new v3 (.cells #[.int .u8 45] 5)) (y1.cells.below hA y1.lt) HD.out (by omega)
      have hsz3 := hbr.size
      have K6 : Hid (w6.heap[G]? = some (.cells #[.string N, .string D] 23 (0, 0)) ∧ Below w.heap.size w w6) := Lib.hid ⟨by rw [hg.block G (by simp; omega) (fun e => by injection e with e; omega)]; exact blk_below hA t1, (hbr.alloc hbr.size (.cells #[.int .u8 45] 5)).grown hg (by simp; omega) (fun k hk => by injection hk with hk; omega)⟩
      go_wp2_with (at_builtin; refine wpList_append_ok (by rfl) (.tmp 82) (.tmp 83) 36 (by rfl) (by rfl) (by rfl) hr ?_)
      go_meet
      case rel => exact ⟨gx, N.size, cx, g', D.size + 1, c', N.data.toList, 45 :: D.data.toList, rfl, rfl, by simp, by simp, by omega, by omega, ((x1.below hA).grown hg (by intro e; injection e with e; omega)).cells, hB, K6.out.1, K6.out.2⟩
  case rest =>
    obtain ⟨hx, nx, dx, hy, ny, dy, lx, ly, rfl, rfl, hlx, hly, hnx, hny, Bx, By, t1, hbr⟩ := hcut
    have ex := by_back (c := dx) Bx hlx
    have ey := by_back (c := dy) By hly
    have sx : (⟨lx.toArray⟩ : ByteArray).size ≤ maxLen := by
      have : (⟨lx.toArray⟩ : ByteArray).size = lx.length := by simp [ByteArray.size]
      unfold maxLen; omega
    have sy : (⟨ly.toArray⟩ : ByteArray).size ≤ maxLen := by
      have : (⟨ly.toArray⟩ : ByteArray).size = ly.length := by simp [ByteArray.size]
      unfold maxLen; omega
    generalize (⟨lx.toArray⟩ : ByteArray) = X at *
    generalize (⟨ly.toArray⟩ : ByteArray) = Y at *
    obtain ⟨bb, hbb⟩ : ∃ b, formB X.data.toList Y.data.toList = b := ⟨_, rfl⟩
    have V2 := Lib.hid (fun w => by have := valid23 X Y w sx sy; rw [hbb] at this; exact this)
    have V3 := Lib.hid (fun w => by have := valid24 X Y w sx sy; rw [hbb] at this; exact this)
    have t2 := heap_alloc_new wc (.cells #[.string X, .string Y] 23)
    have hA := (Below.refl wc.heap.size wc).alloc (Nat.le_refl _) (.cells #[.string X, .string Y] 23)
    replace t1 := blk_below hA t1
    replace hbr := below_trans' hbr hbr.size hA
    clear hlx hly Bx By sx sy hbb hA hs8
    go_upto_region 24 with fail
    generalize wc.alloc (.cells #[.string X, .string Y] 23) = v9 at *
    generalize wc.heap.size = Z at *
    have HSS : Hid (∀ w', Below v9.heap.size v9 w' → (w'.cell? ⟨G, 0, none⟩ = some (.string N) ∧ w'.cell? ⟨G, 1, none⟩ = some (.string D)) ∧ (w'.cell? ⟨Z, 0, none⟩ = some (.string X) ∧ w'.cell? ⟨Z, 1, none⟩ = some (.string Y))) := Lib.hid fun w' h => ⟨cells2 (blk_below h t1), cells2 (blk_below h t2)⟩
    have hbd : Below v9.heap.size v9 v9.drew := (Below.refl _ _).drew
    have s0 := HSS.out _ hbd
    clear t1 t2 ex ey
    go_region_held3 (fun w' => (w'.cell? ⟨G, 0, none⟩ = some (.string N) ∧ w'.cell? ⟨G, 1, none⟩ = some (.string D)) ∧ (w'.cell? ⟨Z, 0, none⟩ = some (.string X) ∧ w'.cell? ⟨Z, 1, none⟩ = some (.string Y)))
      (first | with_reducible exact s0 | with_reducible exact s1 | with_reducible exact s2 | with_reducible exact s3)
      (first
        | (go_at_call 24; (with_reducible refine (V3.out _).mono ?_); rintro e x3 ⟨rfl, hb3⟩; have hC3 := below_trans' hC2 hC2.size hb3; have s3 := HSS.out _ hC3)
        | (go_at_call 23; (with_reducible refine (V1.out _).mono ?_); rintro e x1 ⟨rfl, hb1⟩; have hC1 := below_trans' hbd hbd.size hb1; have s1 := HSS.out _ hC1)
        | (go_at_call 23; (with_reducible refine (V2.out _).mono ?_); rintro e x2 ⟨rfl, hb2⟩; have hC2 := below_trans' hC1 hC1.size hb2; have s2 := HSS.out _ hC2))
    all_goals
      have hbe := below_trans' hbr hbr.size hC3
      clear s0 s1 s2 s3
      go_wp2_with fail
      go_ret
      exact ⟨rfl, hbe⟩
end Go.Proofs.YtpligjkbnlfhgaaDoor
