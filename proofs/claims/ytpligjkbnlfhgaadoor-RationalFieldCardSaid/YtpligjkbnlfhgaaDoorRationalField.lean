/- The walk of RationalField. -/
import Derived.Test.YtpligjkbnlfhgaaDoorRationalOrder
namespace Go.Proofs.YtpligjkbnlfhgaaDoor
open Go.RowKit

theorem divX {A B C D : ByteArray} {x y : Rat} (w : World) (h : Tx A B x) (g : Tx C D y) (hy : y ≠ 0) (hf : fitsR (x / y)) :
    Calls Tryd.prog 30 #[.agg #[.string A, .string B], .agg #[.string C, .string D]] w fun e w' => ∃ A' B', e = .returned (.tuple #[.agg #[.string A', .string B'], .bool true]) ∧ Tx A' B' (x / y) ∧ Below w.heap.size w w' :=
  bin_tx h g (if_neg hy) hf (div30 A B C D w h.lens.1 h.lens.2 g.lens.1 g.lens.2)
theorem divX0 {A B C D : ByteArray} {x : Rat} (w : World) (h : Tx A B x) (g : Tx C D 0) :
    Calls Tryd.prog 30 #[.agg #[.string A, .string B], .agg #[.string C, .string D]] w fun e w' => e = .returned (.tuple #[.agg #[.string ⟨#[]⟩, .string ⟨#[]⟩], .bool false]) ∧ Below w.heap.size w w' := by
  have := div30 A B C D w h.lens.1 h.lens.2 g.lens.1 g.lens.2
  unfold divT at this
  rw [op2_tx h g, if_pos rfl] at this
  exact this
theorem add_sub_back (x y : Rat) : x + y - y = x := by rw [Rat.sub_eq_add_neg, Rat.add_assoc, Rat.add_neg_cancel, Rat.add_zero]
theorem mul_div_back (x y : Rat) (hy : y ≠ 0) : x * y / y = x := by rw [Rat.div_def, Rat.mul_assoc, Rat.mul_inv_cancel _ hy, Rat.mul_one]

set_option maxRecDepth 100000 in
set_option maxHeartbeats 8000000 in
theorem rationalField7 (a0 a1 a2 a3 a4 a5 : Int) (w : World) (w0 : (Lit.int .i32 a0).wf = true) (w1 : (Lit.int .i32 a1).wf = true) (w2 : (Lit.int .i32 a2).wf = true) (w3 : (Lit.int .i32 a3).wf = true) (w4 : (Lit.int .i32 a4).wf = true) (w5 : (Lit.int .i32 a5).wf = true) :
    Calls Tryd.prog 7 #[.int .i32 a0, .int .i32 a1, .int .i32 a2, .int .i32 a3, .int .i32 a4, .int .i32 a5] w fun e w' => e = .returned (.bool true) ∧ Below w.heap.size w w' := by
  obtain ⟨b0, c0⟩ := i32_bd w0
  obtain ⟨b1, c1⟩ := i32_bd w1
  obtain ⟨b2, c2⟩ := i32_bd w2
  obtain ⟨b3, c3⟩ := i32_bd w3
  obtain ⟨b4, c4⟩ := i32_bd w4
  obtain ⟨b5, c5⟩ := i32_bd w5
  have hx := ofQ32 ⟨b0, c0⟩ ⟨b1, c1⟩
  have hy := ofQ32 ⟨b2, c2⟩ ⟨b3, c3⟩
  have hz := ofQ32 ⟨b4, c4⟩ ⟨b5, c5⟩
  clear w0 w1 w2 w3 w4 w5
  go_enter Tryd.func7, Tryd.ntmps7
  go_wp2_with fail
  refine (awake17 _).mono ?_
  rintro e v0 ⟨rfl, hb0⟩
  go_wp2_with fail
  refine (of18 a0 a1 _ (by omega) (by omega) (by omega) (by omega)).mono ?_
  rintro e v1 ⟨A1, B1, rfl, T1, hb1⟩
  have hB1 := below_trans' hb0 hb0.size hb1
  go_wp2_with fail
  refine (of18 a2 a3 _ (by omega) (by omega) (by omega) (by omega)).mono ?_
  rintro e v2 ⟨A2, B2, rfl, T2, hb2⟩
  have hB2 := below_trans' hB1 hB1.size hb2
  go_wp2_with fail
  refine (of18 a4 a5 _ (by omega) (by omega) (by omega) (by omega)).mono ?_
  rintro e v3 ⟨A3, B3, rfl, T3, hb3⟩
  have hB3 := below_trans' hB2 hB2.size hb3
  generalize ofQ a0 a1 = x at *
  generalize ofQ a2 a3 = y at *
  generalize ofQ a4 a5 = z at *
  obtain ⟨hal, g1, g2, g3⟩ := allocs3 v3 #[.string A1, .string B1] #[.string A2, .string B2] #[.string A3, .string B3] 23 23 23
  have G1 := Lib.hid g1
  have G2 := Lib.hid g2
  have G3 := Lib.hid g3
  have hB := below_trans' hB3 hB3.size hal
  clear hb0 hb1 hb2 hb3 hB1 hB2 hB3 b0 c0 b1 c1 b2 c2 b3 c3 b4 c4 b5 c5 g1 g2 g3 hal
  have qa := cells2 G1.out
  have qb := cells2 G2.out
  go_wp2_with fail
  refine (addX _ T1 T2 (fits_pow (bd_add hx hy) (by decide))).mono ?_
  rintro e v4 ⟨A4, B4, rfl, T4, hb⟩
  have hst := below_trans' hb hb.size ((Below.refl v4.heap.size v4).alloc (Nat.le_refl _) (.cells #[.string A4, .string B4] 23))
  replace G1 := Lib.hid (blk_below hst G1.out)
  replace G2 := Lib.hid (blk_below hst G2.out)
  replace G3 := Lib.hid (blk_below hst G3.out)
  have G4 := Lib.hid (heap_alloc_new v4 (.cells #[.string A4, .string B4] 23))
  replace hB := below_trans' hB hB.size hst
  clear hst hb qa qb
  have qa := cells2 G2.out
  have qb := cells2 G1.out
  go_wp2_with fail
  refine (addX _ T2 T1 (fits_pow (bd_add hy hx) (by decide))).mono ?_
  rintro e v5 ⟨A5, B5, rfl, T5, hb⟩
  have hst := below_trans' hb hb.size ((Below.refl v5.heap.size v5).alloc (Nat.le_refl _) (.cells #[.string A5, .string B5] 23))
  replace G1 := Lib.hid (blk_below hst G1.out)
  replace G2 := Lib.hid (blk_below hst G2.out)
  replace G3 := Lib.hid (blk_below hst G3.out)
  replace G4 := Lib.hid (blk_below hst G4.out)
  have G5 := Lib.hid (heap_alloc_new v5 (.cells #[.string A5, .string B5] 23))
  replace hB := below_trans' hB hB.size hst
  clear hst hb qa qb
  have qa := cells2 G4.out
  have qb := cells2 G3.out
  go_wp2_with fail
  refine (addX _ T4 T3 (fits_pow (bd_add (bd_add hx hy) hz) (by decide))).mono ?_
  rintro e v6 ⟨A6, B6, rfl, T6, hb⟩
  have hst := below_trans' hb hb.size ((Below.refl v6.heap.size v6).alloc (Nat.le_refl _) (.cells #[.string A6, .string B6] 23))
  replace G1 := Lib.hid (blk_below hst G1.out)
  replace G2 := Lib.hid (blk_below hst G2.out)
  replace G3 := Lib.hid (blk_below hst G3.out)
  replace G4 := Lib.hid (blk_below hst G4.out)
  replace G5 := Lib.hid (blk_below hst G5.out)
  have G6 := Lib.hid (heap_alloc_new v6 (.cells #[.string A6, .string B6] 23))
  replace hB := below_trans' hB hB.size hst
  clear hst hb qa qb
  have qa := cells2 G2.out
  have qb := cells2 G3.out
  go_wp2_with fail
  refine (addX _ T2 T3 (fits_pow (bd_add hy hz) (by decide))).mono ?_
  rintro e v7 ⟨A7, B7, rfl, T7, hb⟩
  have hst := below_trans' hb hb.size ((Below.refl v7.heap.size v7).alloc (Nat.le_refl _) (.cells #[.string A7, .string B7] 23))
  replace G1 := Lib.hid (blk_below hst G1.out)
  replace G2 := Lib.hid (blk_below hst G2.out)
  replace G3 := Lib.hid (blk_below hst G3.out)
  replace G4 := Lib.hid (blk_below hst G4.out)
  replace G5 := Lib.hid (blk_below hst G5.out)
  replace G6 := Lib.hid (blk_below hst G6.out)
  have G7 := Lib.hid (heap_alloc_new v7 (.cells #[.string A7, .string B7] 23))
  replace hB := below_trans' hB hB.size hst
  clear hst hb qa qb
  have qa := cells2 G1.out
  have qb := cells2 G7.out
  go_wp2_with fail
  refine (addX _ T1 T7 (fits_pow (bd_add hx (bd_add hy hz)) (by decide))).mono ?_
  rintro e v8 ⟨A8, B8, rfl, T8, hb⟩
  have hst := below_trans' hb hb.size ((Below.refl v8.heap.size v8).alloc (Nat.le_refl _) (.cells #[.string A8, .string B8] 23))
  replace G1 := Lib.hid (blk_below hst G1.out)
  replace G2 := Lib.hid (blk_below hst G2.out)
  replace G3 := Lib.hid (blk_below hst G3.out)
  replace G4 := Lib.hid (blk_below hst G4.out)
  replace G5 := Lib.hid (blk_below hst G5.out)
  replace G6 := Lib.hid (blk_below hst G6.out)
  replace G7 := Lib.hid (blk_below hst G7.out)
  have G8 := Lib.hid (heap_alloc_new v8 (.cells #[.string A8, .string B8] 23))
  replace hB := below_trans' hB hB.size hst
  clear hst hb qa qb
  have qa := cells2 G4.out
  have qb := cells2 G2.out
  go_wp2_with fail
  refine (subX _ T4 T2 (fits_pow (bd_sub (bd_add hx hy) hy) (by decide))).mono ?_
  rintro e v9 ⟨A9, B9, rfl, T9, hb⟩
  have hst := below_trans' hb hb.size ((Below.refl v9.heap.size v9).alloc (Nat.le_refl _) (.cells #[.string A9, .string B9] 23))
  replace G1 := Lib.hid (blk_below hst G1.out)
  replace G2 := Lib.hid (blk_below hst G2.out)
  replace G3 := Lib.hid (blk_below hst G3.out)
  replace G4 := Lib.hid (blk_below hst G4.out)
  replace G5 := Lib.hid (blk_below hst G5.out)
  replace G6 := Lib.hid (blk_below hst G6.out)
  replace G7 := Lib.hid (blk_below hst G7.out)
  replace G8 := Lib.hid (blk_below hst G8.out)
  have G9 := Lib.hid (heap_alloc_new v9 (.cells #[.string A9, .string B9] 23))
  replace hB := below_trans' hB hB.size hst
  clear hst hb qa qb
  have qa := cells2 G1.out
  have qb := cells2 G2.out
  go_wp2_with fail
  refine (mulX _ T1 T2 (fits_pow (bd_mul hx hy) (by decide))).mono ?_
  rintro e v10 ⟨A10, B10, rfl, T10, hb⟩
  have hst := below_trans' hb hb.size ((Below.refl v10.heap.size v10).alloc (Nat.le_refl _) (.cells #[.string A10, .string B10] 23))
  replace G1 := Lib.hid (blk_below hst G1.out)
  replace G2 := Lib.hid (blk_below hst G2.out)
  replace G3 := Lib.hid (blk_below hst G3.out)
  replace G4 := Lib.hid (blk_below hst G4.out)
  replace G5 := Lib.hid (blk_below hst G5.out)
  replace G6 := Lib.hid (blk_below hst G6.out)
  replace G7 := Lib.hid (blk_below hst G7.out)
  replace G8 := Lib.hid (blk_below hst G8.out)
  replace G9 := Lib.hid (blk_below hst G9.out)
  have G10 := Lib.hid (heap_alloc_new v10 (.cells #[.string A10, .string B10] 23))
  replace hB := below_trans' hB hB.size hst
  clear hst hb qa qb
  have qa := cells2 G2.out
  have qb := cells2 G1.out
  go_wp2_with fail
  refine (mulX _ T2 T1 (fits_pow (bd_mul hy hx) (by decide))).mono ?_
  rintro e v11 ⟨A11, B11, rfl, T11, hb⟩
  have hst := below_trans' hb hb.size ((Below.refl v11.heap.size v11).alloc (Nat.le_refl _) (.cells #[.string A11, .string B11] 23))
  replace G1 := Lib.hid (blk_below hst G1.out)
  replace G2 := Lib.hid (blk_below hst G2.out)
  replace G3 := Lib.hid (blk_below hst G3.out)
  replace G4 := Lib.hid (blk_below hst G4.out)
  replace G5 := Lib.hid (blk_below hst G5.out)
  replace G6 := Lib.hid (blk_below hst G6.out)
  replace G7 := Lib.hid (blk_below hst G7.out)
  replace G8 := Lib.hid (blk_below hst G8.out)
  replace G9 := Lib.hid (blk_below hst G9.out)
  replace G10 := Lib.hid (blk_below hst G10.out)
  have G11 := Lib.hid (heap_alloc_new v11 (.cells #[.string A11, .string B11] 23))
  replace hB := below_trans' hB hB.size hst
  clear hst hb qa qb
  have qa := cells2 G10.out
  have qb := cells2 G3.out
  go_wp2_with fail
  refine (mulX _ T10 T3 (fits_pow (bd_mul (bd_mul hx hy) hz) (by decide))).mono ?_
  rintro e v12 ⟨A12, B12, rfl, T12, hb⟩
  have hst := below_trans' hb hb.size ((Below.refl v12.heap.size v12).alloc (Nat.le_refl _) (.cells #[.string A12, .string B12] 23))
  replace G1 := Lib.hid (blk_below hst G1.out)
  replace G2 := Lib.hid (blk_below hst G2.out)
  replace G3 := Lib.hid (blk_below hst G3.out)
  replace G4 := Lib.hid (blk_below hst G4.out)
  replace G5 := Lib.hid (blk_below hst G5.out)
  replace G6 := Lib.hid (blk_below hst G6.out)
  replace G7 := Lib.hid (blk_below hst G7.out)
  replace G8 := Lib.hid (blk_below hst G8.out)
  replace G9 := Lib.hid (blk_below hst G9.out)
  replace G10 := Lib.hid (blk_below hst G10.out)
  replace G11 := Lib.hid (blk_below hst G11.out)
  have G12 := Lib.hid (heap_alloc_new v12 (.cells #[.string A12, .string B12] 23))
  replace hB := below_trans' hB hB.size hst
  clear hst hb qa qb
  have qa := cells2 G2.out
  have qb := cells2 G3.out
  go_wp2_with fail
  refine (mulX _ T2 T3 (fits_pow (bd_mul hy hz) (by decide))).mono ?_
  rintro e v13 ⟨A13, B13, rfl, T13, hb⟩
  have hst := below_trans' hb hb.size ((Below.refl v13.heap.size v13).alloc (Nat.le_refl _) (.cells #[.string A13, .string B13] 23))
  replace G1 := Lib.hid (blk_below hst G1.out)
  replace G2 := Lib.hid (blk_below hst G2.out)
  replace G3 := Lib.hid (blk_below hst G3.out)
  replace G4 := Lib.hid (blk_below hst G4.out)
  replace G5 := Lib.hid (blk_below hst G5.out)
  replace G6 := Lib.hid (blk_below hst G6.out)
  replace G7 := Lib.hid (blk_below hst G7.out)
  replace G8 := Lib.hid (blk_below hst G8.out)
  replace G9 := Lib.hid (blk_below hst G9.out)
  replace G10 := Lib.hid (blk_below hst G10.out)
  replace G11 := Lib.hid (blk_below hst G11.out)
  replace G12 := Lib.hid (blk_below hst G12.out)
  have G13 := Lib.hid (heap_alloc_new v13 (.cells #[.string A13, .string B13] 23))
  replace hB := below_trans' hB hB.size hst
  clear hst hb qa qb
  have qa := cells2 G1.out
  have qb := cells2 G13.out
  go_wp2_with fail
  refine (mulX _ T1 T13 (fits_pow (bd_mul hx (bd_mul hy hz)) (by decide))).mono ?_
  rintro e v14 ⟨A14, B14, rfl, T14, hb⟩
  have hst := below_trans' hb hb.size ((Below.refl v14.heap.size v14).alloc (Nat.le_refl _) (.cells #[.string A14, .string B14] 23))
  replace G1 := Lib.hid (blk_below hst G1.out)
  replace G2 := Lib.hid (blk_below hst G2.out)
  replace G3 := Lib.hid (blk_below hst G3.out)
  replace G4 := Lib.hid (blk_below hst G4.out)
  replace G5 := Lib.hid (blk_below hst G5.out)
  replace G6 := Lib.hid (blk_below hst G6.out)
  replace G7 := Lib.hid (blk_below hst G7.out)
  replace G8 := Lib.hid (blk_below hst G8.out)
  replace G9 := Lib.hid (blk_below hst G9.out)
  replace G10 := Lib.hid (blk_below hst G10.out)
  replace G11 := Lib.hid (blk_below hst G11.out)
  replace G12 := Lib.hid (blk_below hst G12.out)
  replace G13 := Lib.hid (blk_below hst G13.out)
  have G14 := Lib.hid (heap_alloc_new v14 (.cells #[.string A14, .string B14] 23))
  replace hB := below_trans' hB hB.size hst
  clear hst hb qa qb
  have qa := cells2 G4.out
  have qb := cells2 G3.out
  go_wp2_with fail
  refine (mulX _ T4 T3 (fits_pow (bd_mul (bd_add hx hy) hz) (by decide))).mono ?_
  rintro e v15 ⟨A15, B15, rfl, T15, hb⟩
  have hst := below_trans' hb hb.size ((Below.refl v15.heap.size v15).alloc (Nat.le_refl _) (.cells #[.string A15, .string B15] 23))
  replace G1 := Lib.hid (blk_below hst G1.out)
  replace G2 := Lib.hid (blk_below hst G2.out)
  replace G3 := Lib.hid (blk_below hst G3.out)
  replace G4 := Lib.hid (blk_below hst G4.out)
  replace G5 := Lib.hid (blk_below hst G5.out)
  replace G6 := Lib.hid (blk_below hst G6.out)
  replace G7 := Lib.hid (blk_below hst G7.out)
  replace G8 := Lib.hid (blk_below hst G8.out)
  replace G9 := Lib.hid (blk_below hst G9.out)
  replace G10 := Lib.hid (blk_below hst G10.out)
  replace G11 := Lib.hid (blk_below hst G11.out)
  replace G12 := Lib.hid (blk_below hst G12.out)
  replace G13 := Lib.hid (blk_below hst G13.out)
  replace G14 := Lib.hid (blk_below hst G14.out)
  have G15 := Lib.hid (heap_alloc_new v15 (.cells #[.string A15, .string B15] 23))
  replace hB := below_trans' hB hB.size hst
  clear hst hb qa qb
  have qa := cells2 G1.out
  have qb := cells2 G3.out
  go_wp2_with fail
  refine (mulX _ T1 T3 (fits_pow (bd_mul hx hz) (by decide))).mono ?_
  rintro e v16 ⟨A16, B16, rfl, T16, hb⟩
  have hst := below_trans' hb hb.size ((Below.refl v16.heap.size v16).alloc (Nat.le_refl _) (.cells #[.string A16, .string B16] 23))
  replace G1 := Lib.hid (blk_below hst G1.out)
  replace G2 := Lib.hid (blk_below hst G2.out)
  replace G3 := Lib.hid (blk_below hst G3.out)
  replace G4 := Lib.hid (blk_below hst G4.out)
  replace G5 := Lib.hid (blk_below hst G5.out)
  replace G6 := Lib.hid (blk_below hst G6.out)
  replace G7 := Lib.hid (blk_below hst G7.out)
  replace G8 := Lib.hid (blk_below hst G8.out)
  replace G9 := Lib.hid (blk_below hst G9.out)
  replace G10 := Lib.hid (blk_below hst G10.out)
  replace G11 := Lib.hid (blk_below hst G11.out)
  replace G12 := Lib.hid (blk_below hst G12.out)
  replace G13 := Lib.hid (blk_below hst G13.out)
  replace G14 := Lib.hid (blk_below hst G14.out)
  replace G15 := Lib.hid (blk_below hst G15.out)
  have G16 := Lib.hid (heap_alloc_new v16 (.cells #[.string A16, .string B16] 23))
  replace hB := below_trans' hB hB.size hst
  clear hst hb qa qb
  have qa := cells2 G16.out
  have qb := cells2 G13.out
  go_wp2_with fail
  refine (addX _ T16 T13 (fits_pow (bd_add (bd_mul hx hz) (bd_mul hy hz)) (by decide))).mono ?_
  rintro e v17 ⟨A17, B17, rfl, T17, hb⟩
  have hst := below_trans' hb hb.size ((Below.refl v17.heap.size v17).alloc (Nat.le_refl _) (.cells #[.string A17, .string B17] 23))
  replace G1 := Lib.hid (blk_below hst G1.out)
  replace G2 := Lib.hid (blk_below hst G2.out)
  replace G3 := Lib.hid (blk_below hst G3.out)
  replace G4 := Lib.hid (blk_below hst G4.out)
  replace G5 := Lib.hid (blk_below hst G5.out)
  replace G6 := Lib.hid (blk_below hst G6.out)
  replace G7 := Lib.hid (blk_below hst G7.out)
  replace G8 := Lib.hid (blk_below hst G8.out)
  replace G9 := Lib.hid (blk_below hst G9.out)
  replace G10 := Lib.hid (blk_below hst G10.out)
  replace G11 := Lib.hid (blk_below hst G11.out)
  replace G12 := Lib.hid (blk_below hst G12.out)
  replace G13 := Lib.hid (blk_below hst G13.out)
  replace G14 := Lib.hid (blk_below hst G14.out)
  replace G15 := Lib.hid (blk_below hst G15.out)
  replace G16 := Lib.hid (blk_below hst G16.out)
  have G17 := Lib.hid (heap_alloc_new v17 (.cells #[.string A17, .string B17] 23))
  replace hB := below_trans' hB hB.size hst
  clear hst hb qa qb
  obtain ⟨rfl, rfl⟩ := T4.inj (by rw [Rat.add_comm]; exact T5)
  obtain ⟨rfl, rfl⟩ := T6.inj (by rw [Rat.add_assoc]; exact T8)
  obtain ⟨rfl, rfl⟩ := T1.inj (by have := T9; rw [add_sub_back] at this; exact this)
  obtain ⟨rfl, rfl⟩ := T10.inj (by rw [Rat.mul_comm]; exact T11)
  obtain ⟨rfl, rfl⟩ := T12.inj (by rw [Rat.mul_assoc]; exact T14)
  obtain ⟨rfl, rfl⟩ := T15.inj (by rw [Rat.add_mul]; exact T17)
  have q1 := cells2 G1.out
  have q2 := cells2 G2.out
  have q3 := cells2 G3.out
  have q4 := cells2 G4.out
  have q5 := cells2 G5.out
  have q6 := cells2 G6.out
  have q7 := cells2 G7.out
  have q8 := cells2 G8.out
  have q9 := cells2 G9.out
  have q10 := cells2 G10.out
  have q11 := cells2 G11.out
  have q12 := cells2 G12.out
  have q13 := cells2 G13.out
  have q14 := cells2 G14.out
  have q15 := cells2 G15.out
  have q16 := cells2 G16.out
  have q17 := cells2 G17.out
  go_wp2_with fail
  by_cases hy0 : y = 0
  · subst hy0
    have hA := tx_zero T2
    have e1 : A2.toList = [48] := by rw [ByteArray.toList_eq, hA]
    have e2 : (A2.toList == [48]) = true := by rw [e1]; rfl
    refine (divX0 _ T10 T2).mono ?_
    rintro e v18 ⟨rfl, hb⟩
    have hst := below_trans' hb hb.size ((Below.refl v18.heap.size v18).alloc (Nat.le_refl _) (.cells #[.string ⟨#[]⟩, .string ⟨#[]⟩] 23))
    have p2 := cells2 (blk_below hst G2.out)
    have hBe := below_trans' hB hB.size hst
    clear hA hst hb q1 q2 q3 q4 q5 q6 q7 q8 q9 q10 q11 q12 q13 q14 q15 q16 q17
    go_wp2_with fail
    go_ret
    exact ⟨rfl, hBe⟩
  · refine (divX _ T10 T2 hy0 (by rw [mul_div_back _ _ hy0]; exact T1.1)).mono ?_
    rintro e v18 ⟨A18, B18, rfl, T18, hb⟩
    rw [mul_div_back _ _ hy0] at T18
    have hst := below_trans' hb hb.size ((Below.refl v18.heap.size v18).alloc (Nat.le_refl _) (.cells #[.string A18, .string B18] 23))
    have p1 := cells2 (blk_below hst G1.out)
    have p2 := cells2 (blk_below hst G2.out)
    have p18 := cells2 (heap_alloc_new v18 (.cells #[.string A18, .string B18] 23))
    have hBe := below_trans' hB hB.size hst
    have hne := (tx_head T2 hy0).1
    rw [← ByteArray.toList_eq] at hne
    have hne2 : (A2.toList == [48]) = false := by rw [beq_eq_false_iff_ne]; exact hne
    clear hst hb q1 q2 q3 q4 q5 q6 q7 q8 q9 q10 q11 q12 q13 q14 q15 q16 q17
    obtain ⟨rfl, rfl⟩ := T1.inj T18
    go_wp2_with fail
    go_ret
    exact ⟨rfl, hBe⟩
end Go.Proofs.YtpligjkbnlfhgaaDoor
