/- The walk of EstimateAny. -/
import Derived.Test.YtpligjkbnlfhgaaGreatDoorDf1
import Derived.Test.YtpligjkbnlfhgaaGreatDoorBd2
import Derived.Test.YtpligjkbnlfhgaaGreatDoorRow
import Derived.BigRegion
namespace Go.Proofs.YtpligjkbnlfhgaaGreatDoor
open Go.RowKit

def rK : List CK := [.str, .str]
theorem rK_open {c : List Value} (h : CellsOk rK c) : ∃ N D : ByteArray, c = [.string N, .string D] ∧ N.size ≤ maxLen ∧ D.size ≤ maxLen := by
  match c, h with
  | [_, _], ⟨⟨N, h1, h2⟩, ⟨D, h3, h4⟩, _⟩ => subst h1; subst h3; exact ⟨N, D, rfl, h2, h4⟩
def eK : List CK := [.int .i64, .str, .str, .str, .str]
set_option maxRecDepth 100000 in
theorem eK_open {c : List Value} (h : CellsOk eK c) : ∃ (n : Int) (X Y V W : ByteArray), c = [.int .i64 n, .string X, .string Y, .string V, .string W] ∧ (Lit.int .i64 n).wf = true ∧ X.size ≤ maxLen ∧ Y.size ≤ maxLen ∧ V.size ≤ maxLen ∧ W.size ≤ maxLen := by
  match c, h.len, h with
  | [v0, v1, v2, v3, v4], _, h =>
    obtain ⟨⟨n, h1, h2⟩, ⟨X, h3, h4⟩, ⟨Y, h5, h6⟩, ⟨V, h7, h8⟩, ⟨W, h9, h10⟩, -⟩ := h
    subst h1; subst h3; subst h5; subst h7; subst h9
    exact ⟨n, X, Y, V, W, rfl, h2, h4, h6, h8, h10⟩

set_option maxRecDepth 100000 in
set_option maxHeartbeats 16000000 in
theorem estimateAny4 (a0 : Option Addr) (len0 cap0 : Nat) (z0 : List Int) (a1 : Option Addr) (len1 cap1 : Nat) (z1 : List Int) (c2 c3 c4 : List Value) (w : World) (w0 : IsRow .i64 w a0 len0 cap0 z0) (w1 : IsRow .i64 w a1 len1 cap1 z1) (w2 : CellsOk rK c2) (w3 : CellsOk eK c3) (w4 : CellsOk eK c4) :
    Calls Tryz.prog 4 #[.slice a0 len0 cap0, .slice a1 len1 cap1, .agg c2.toArray, .agg c3.toArray, .agg c4.toArray] w fun e w' => e = .returned (.bool true) ∧ Below w.heap.size w w' := by
  obtain ⟨Z1, Z2, rfl, s1, s2⟩ := rK_open w2
  obtain ⟨n, X1, Y1, V1, W1, rfl, hn, p1, p2, p3, p4⟩ := eK_open w3
  obtain ⟨m, X2, Y2, V2, W2, rfl, hm, q1, q2, q3, q4⟩ := eK_open w4
  have bn := bounds_i64 hn
  have bm := bounds_i64 hm
  obtain ⟨r0, -, l0, k0⟩ := w0.rd
  obtain ⟨r1, -, l1, k1⟩ := w1.rd
  have I0 : IntsV w a0 len0 cap0 (fun i => z0.getD i 0) := ⟨r0, l0, k0⟩
  have I1 : IntsV w a1 len1 cap1 (fun i => z1.getD i 0) := ⟨r1, l1, k1⟩
  generalize (fun i => z0.getD i 0) = f at *
  generalize (fun i => z1.getD i 0) = g at *
  obtain ⟨M1, M2, ok1, hM⟩ := mean_two a0 len0 cap0 f
  obtain ⟨C1, C2, ok2, hC⟩ := cov_two a0 a1 len0 len1 cap0 cap1 f g
  obtain ⟨R1, R2, R3, R4, R5, ok4, hR⟩ := ratio_two a0 a1 len0 len1 cap0 cap1 f g
  obtain ⟨J1, J2, J3, J4, J5, ok5, hJ⟩ := adj_two a0 a1 len0 len1 cap0 cap1 f g Z1 Z2 s1 s2
  obtain ⟨D1, D2, D3, D4, D5, ok6, -, hD⟩ := diff_two (n / 2) (m / 2) X1 Y1 V1 W1 X2 Y2 V2 W2 ⟨p1, p2, p3, p4⟩ ⟨q1, q2, q3, q4⟩
  obtain ⟨lo, hi, ok7, -, hB⟩ := band_two (n / 2) X1 Y1 V1 W1 Z1 Z2 p1 p2 p3 p4 s1 s2
  have HM := Lib.hid hM
  have HC := Lib.hid hC
  have HR := Lib.hid hR
  have HJ := Lib.hid hJ
  have HD := Lib.hid hD
  have HB := Lib.hid hB
  obtain ⟨hbr, t1, t2, t3⟩ := allocs3 w #[.string Z1, .string Z2] #[.int .i64 n, .string X1, .string Y1, .string V1, .string W1] #[.int .i64 m, .string X2, .string Y2, .string V2, .string W2] 26 28 28
  have i1 := I0.below hbr
  have i2 := I1.below hbr
  have cz := cells2 t1
  have ce := cells5 t2
  have cf := cells5 t3
  have u1 := free_of_block t2
  have u2 := free_of_block t3
  clear hM hC hR hJ hD hB w0 w1 w2 w3 w4 hn hm r0 r1 l0 l1 k0 k1 I0 I1 s1 s2 p1 p2 p3 p4 q1 q2 q3 q4
  go_enter Tryz.func4, Tryz.ntmps4
  go_upto_region 1 with fail
  generalize ((w.alloc (.cells #[.string Z1, .string Z2] 26)).alloc (.cells #[.int .i64 n, .string X1, .string Y1, .string V1, .string W1] 28)).alloc (.cells #[.int .i64 m, .string X2, .string Y2, .string V2, .string W2] 28) = v0 at *
  go_wp2_with fail
  refine (awake35 v0).mono ?_
  rintro e u0 ⟨rfl, hb1⟩
  replace i1 := i1.below hb1
  replace i2 := i2.below hb1
  replace t1 := blk_below hb1 t1
  replace t2 := blk_below hb1 t2
  replace t3 := blk_below hb1 t3
  replace cz := cells2 t1
  replace ce := cells5 t2
  replace cf := cells5 t3
  replace u1 := free_of_block t2
  replace u2 := free_of_block t3
  replace hbr := below_trans' hbr hbr.size hb1
  clear hb1
  go_wp2_with fail
  any_goals (go_ret; exact ⟨rfl, hbr⟩)

  clear ce cf u1 u2
  refine ((HM.out _ i1).1).mono ?_
  rintro e w4 ⟨rfl, hbq⟩
  have hst := below_trans' hbq hbq.size ((Below.refl w4.heap.size w4).alloc (Nat.le_refl _) (.cells #[.string M1, .string M2] 26))
  have t4 := heap_alloc_new w4 (.cells #[.string M1, .string M2] 26)
  replace i1 := i1.below hst
  replace i2 := i2.below hst
  replace t1 := blk_below hst t1
  replace t2 := blk_below hst t2
  replace t3 := blk_below hst t3
  replace hbr := below_trans' hbr hbr.size hst
  clear hst hbq
  have cz := cells2 t1
  go_wp2_with fail
  generalize w4.alloc (.cells #[.string M1, .string M2] 26) = v4 at *
  generalize w4.heap.size = B4 at *
  clear cz
  refine ((HM.out _ i1).2).mono ?_
  rintro e w5 ⟨rfl, hbq⟩
  have hst := below_trans' hbq hbq.size ((Below.refl w5.heap.size w5).alloc (Nat.le_refl _) (.cells #[.string M1, .string M2] 26))
  have t5 := heap_alloc_new w5 (.cells #[.string M1, .string M2] 26)
  replace i1 := i1.below hst
  replace i2 := i2.below hst
  replace t1 := blk_below hst t1
  replace t2 := blk_below hst t2
  replace t3 := blk_below hst t3
  replace t4 := blk_below hst t4
  replace hbr := below_trans' hbr hbr.size hst
  clear hst hbq
  have cz := cells2 t1
  go_wp2_with fail
  generalize w5.alloc (.cells #[.string M1, .string M2] 26) = v5 at *
  generalize w5.heap.size = B5 at *
  clear cz
  refine ((HC.out _ i1 i2).1).mono ?_
  rintro e w6 ⟨rfl, hbq⟩
  have hst := below_trans' hbq hbq.size ((Below.refl w6.heap.size w6).alloc (Nat.le_refl _) (.cells #[.string C1, .string C2] 26))
  have t6 := heap_alloc_new w6 (.cells #[.string C1, .string C2] 26)
  replace i1 := i1.below hst
  replace i2 := i2.below hst
  replace t1 := blk_below hst t1
  replace t2 := blk_below hst t2
  replace t3 := blk_below hst t3
  replace t4 := blk_below hst t4
  replace t5 := blk_below hst t5
  replace hbr := below_trans' hbr hbr.size hst
  clear hst hbq
  have cz := cells2 t1
  go_wp2_with fail
  generalize w6.alloc (.cells #[.string C1, .string C2] 26) = v6 at *
  generalize w6.heap.size = B6 at *
  clear cz
  refine ((HC.out _ i1 i2).2).mono ?_
  rintro e w7 ⟨rfl, hbq⟩
  have hst := below_trans' hbq hbq.size ((Below.refl w7.heap.size w7).alloc (Nat.le_refl _) (.cells #[.string C1, .string C2] 26))
  have t7 := heap_alloc_new w7 (.cells #[.string C1, .string C2] 26)
  replace i1 := i1.below hst
  replace i2 := i2.below hst
  replace t1 := blk_below hst t1
  replace t2 := blk_below hst t2
  replace t3 := blk_below hst t3
  replace t4 := blk_below hst t4
  replace t5 := blk_below hst t5
  replace t6 := blk_below hst t6
  replace hbr := below_trans' hbr hbr.size hst
  clear hst hbq
  have cz := cells2 t1
  go_wp2_with fail
  generalize w7.alloc (.cells #[.string C1, .string C2] 26) = v7 at *
  generalize w7.heap.size = B7 at *
  clear cz
  refine ((HR.out _ i1 i2).1).mono ?_
  rintro e w8 ⟨rfl, hbq⟩
  have hst := below_trans' hbq hbq.size ((Below.refl w8.heap.size w8).alloc (Nat.le_refl _) (.cells #[.int .i64 R1, .string R2, .string R3, .string R4, .string R5] 28))
  have t8 := heap_alloc_new w8 (.cells #[.int .i64 R1, .string R2, .string R3, .string R4, .string R5] 28)
  replace i1 := i1.below hst
  replace i2 := i2.below hst
  replace t1 := blk_below hst t1
  replace t2 := blk_below hst t2
  replace t3 := blk_below hst t3
  replace t4 := blk_below hst t4
  replace t5 := blk_below hst t5
  replace t6 := blk_below hst t6
  replace t7 := blk_below hst t7
  replace hbr := below_trans' hbr hbr.size hst
  clear hst hbq
  have cz := cells2 t1
  go_wp2_with fail
  generalize w8.alloc (.cells #[.int .i64 R1, .string R2, .string R3, .string R4, .string R5] 28) = v8 at *
  generalize w8.heap.size = B8 at *
  clear cz
  refine ((HR.out _ i1 i2).2).mono ?_
  rintro e w9 ⟨rfl, hbq⟩
  have hst := below_trans' hbq hbq.size ((Below.refl w9.heap.size w9).alloc (Nat.le_refl _) (.cells #[.int .i64 R1, .string R2, .string R3, .string R4, .string R5] 28))
  have t9 := heap_alloc_new w9 (.cells #[.int .i64 R1, .string R2, .string R3, .string R4, .string R5] 28)
  replace i1 := i1.below hst
  replace i2 := i2.below hst
  replace t1 := blk_below hst t1
  replace t2 := blk_below hst t2
  replace t3 := blk_below hst t3
  replace t4 := blk_below hst t4
  replace t5 := blk_below hst t5
  replace t6 := blk_below hst t6
  replace t7 := blk_below hst t7
  replace t8 := blk_below hst t8
  replace hbr := below_trans' hbr hbr.size hst
  clear hst hbq
  have cz := cells2 t1
  go_wp2_with fail
  generalize w9.alloc (.cells #[.int .i64 R1, .string R2, .string R3, .string R4, .string R5] 28) = v9 at *
  generalize w9.heap.size = B9 at *
  clear cz
  refine ((HJ.out _ i1 i2).1).mono ?_
  rintro e w10 ⟨rfl, hbq⟩
  have hst := below_trans' hbq hbq.size ((Below.refl w10.heap.size w10).alloc (Nat.le_refl _) (.cells #[.int .i64 J1, .string J2, .string J3, .string J4, .string J5] 28))
  have t10 := heap_alloc_new w10 (.cells #[.int .i64 J1, .string J2, .string J3, .string J4, .string J5] 28)
  replace i1 := i1.below hst
  replace i2 := i2.below hst
  replace t1 := blk_below hst t1
  replace t2 := blk_below hst t2
  replace t3 := blk_below hst t3
  replace t4 := blk_below hst t4
  replace t5 := blk_below hst t5
  replace t6 := blk_below hst t6
  replace t7 := blk_below hst t7
  replace t8 := blk_below hst t8
  replace t9 := blk_below hst t9
  replace hbr := below_trans' hbr hbr.size hst
  clear hst hbq
  have cz := cells2 t1
  go_wp2_with fail
  generalize w10.alloc (.cells #[.int .i64 J1, .string J2, .string J3, .string J4, .string J5] 28) = v10 at *
  generalize w10.heap.size = B10 at *
  clear cz
  refine ((HJ.out _ i1 i2).2).mono ?_
  rintro e w11 ⟨rfl, hbq⟩
  have hst := below_trans' hbq hbq.size ((Below.refl w11.heap.size w11).alloc (Nat.le_refl _) (.cells #[.int .i64 J1, .string J2, .string J3, .string J4, .string J5] 28))
  have t11 := heap_alloc_new w11 (.cells #[.int .i64 J1, .string J2, .string J3, .string J4, .string J5] 28)
  replace i1 := i1.below hst
  replace i2 := i2.below hst
  replace t1 := blk_below hst t1
  replace t2 := blk_below hst t2
  replace t3 := blk_below hst t3
  replace t4 := blk_below hst t4
  replace t5 := blk_below hst t5
  replace t6 := blk_below hst t6
  replace t7 := blk_below hst t7
  replace t8 := blk_below hst t8
  replace t9 := blk_below hst t9
  replace t10 := blk_below hst t10
  replace hbr := below_trans' hbr hbr.size hst
  clear hst hbq
  have m4 := cells2 t4
  have m5 := cells2 t5
  have m6 := cells2 t6
  have m7 := cells2 t7
  have m8 := cells5 t8
  have m9 := cells5 t9
  have m10 := cells5 t10
  have m11 := cells5 t11
  have ce := cells5 t2
  have cf := cells5 t3
  have u1 := free_of_block t2
  have u2 := free_of_block t3
  go_upto_region 15 with fail
  generalize w11.alloc (.cells #[.int .i64 J1, .string J2, .string J3, .string J4, .string J5] 28) = v11 at *
  generalize w11.heap.size = B11 at *
  have nb : w.heap.size + 1 ≠ w.heap.size + 1 + 1 := by omega
  clear m4 m5 m6 m7 m8 m9 m10 m11
  go_region
  have T1 : ((v11.setCell ⟨w.heap.size + 1, 0, none⟩ (.int .i64 (n / 2))).setCell ⟨w.heap.size + 1 + 1, 0, none⟩ (.int .i64 (m / 2))).drew.heap[w.heap.size]? = some (.cells #[.string Z1, .string Z2] 26 (0, 0)) := (Below.heap_setCell _ ⟨w.heap.size + 1 + 1, 0, none⟩ _ w.heap.size (by show w.heap.size ≠ w.heap.size + 1 + 1; omega)).trans ((Below.heap_setCell _ ⟨w.heap.size + 1, 0, none⟩ _ w.heap.size (by show w.heap.size ≠ w.heap.size + 1; omega)).trans t1)
  have T2 : ((v11.setCell ⟨w.heap.size + 1, 0, none⟩ (.int .i64 (n / 2))).setCell ⟨w.heap.size + 1 + 1, 0, none⟩ (.int .i64 (m / 2))).drew.heap[w.heap.size + 1]? = some (.cells #[.int .i64 (n / 2), .string X1, .string Y1, .string V1, .string W1] 28 (0, 0)) := (Below.heap_setCell _ ⟨w.heap.size + 1 + 1, 0, none⟩ _ (w.heap.size + 1) nb).trans (block_set t2 0 (.int .i64 (n / 2)))
  have T3 : ((v11.setCell ⟨w.heap.size + 1, 0, none⟩ (.int .i64 (n / 2))).setCell ⟨w.heap.size + 1 + 1, 0, none⟩ (.int .i64 (m / 2))).drew.heap[w.heap.size + 1 + 1]? = some (.cells #[.int .i64 (m / 2), .string X2, .string Y2, .string V2, .string W2] 28 (0, 0)) := block_set ((Below.heap_setCell v11 ⟨w.heap.size + 1, 0, none⟩ (.int .i64 (n / 2)) (w.heap.size + 1 + 1) (Ne.symm nb)).trans t3) 0 (.int .i64 (m / 2))
  replace hbr : Below w.heap.size w ((v11.setCell ⟨w.heap.size + 1, 0, none⟩ (.int .i64 (n / 2))).setCell ⟨w.heap.size + 1 + 1, 0, none⟩ (.int .i64 (m / 2))).drew := ((hbr.setCell (p := ⟨w.heap.size + 1, 0, none⟩) (show w.heap.size ≤ w.heap.size + 1 by omega) (.int .i64 (n / 2))).setCell (p := ⟨w.heap.size + 1 + 1, 0, none⟩) (show w.heap.size ≤ w.heap.size + 1 + 1 by omega) (.int .i64 (m / 2))).drew
  clear ce cf u1 u2 t1 t2 t3 i1 i2 t4 t5 t6 t7 t8 t9 t10 t11
  generalize ((v11.setCell ⟨w.heap.size + 1, 0, none⟩ (.int .i64 (n / 2))).setCell ⟨w.heap.size + 1 + 1, 0, none⟩ (.int .i64 (m / 2))).drew = v0 at *
  have cz := cells2 T1
  have ce := cells5 T2
  have cf := cells5 T3
  go_wp2_with fail
  clear cz ce cf
  refine ((HD.out _).1).mono ?_
  rintro e w12 ⟨rfl, hbq⟩
  have hst := below_trans' hbq hbq.size ((Below.refl w12.heap.size w12).alloc (Nat.le_refl _) (.cells #[.int .i64 D1, .string D2, .string D3, .string D4, .string D5] 28))
  have t12 := heap_alloc_new w12 (.cells #[.int .i64 D1, .string D2, .string D3, .string D4, .string D5] 28)
  replace T1 := blk_below hst T1
  replace T2 := blk_below hst T2
  replace T3 := blk_below hst T3
  replace hbr := below_trans' hbr hbr.size hst
  clear hst hbq
  have cz := cells2 T1
  have ce := cells5 T2
  have cf := cells5 T3
  go_wp2_with fail
  generalize w12.alloc (.cells #[.int .i64 D1, .string D2, .string D3, .string D4, .string D5] 28) = v12 at *
  generalize w12.heap.size = B12 at *
  clear cz ce cf
  refine ((HD.out _).2).mono ?_
  rintro e w13 ⟨rfl, hbq⟩
  have hst := below_trans' hbq hbq.size ((Below.refl w13.heap.size w13).alloc (Nat.le_refl _) (.cells #[.int .i64 D1, .string D2, .string D3, .string D4, .string D5] 28))
  have t13 := heap_alloc_new w13 (.cells #[.int .i64 D1, .string D2, .string D3, .string D4, .string D5] 28)
  replace T1 := blk_below hst T1
  replace T2 := blk_below hst T2
  replace T3 := blk_below hst T3
  replace t12 := blk_below hst t12
  replace hbr := below_trans' hbr hbr.size hst
  clear hst hbq
  have cz := cells2 T1
  have ce := cells5 T2
  have cf := cells5 T3
  go_wp2_with fail
  generalize w13.alloc (.cells #[.int .i64 D1, .string D2, .string D3, .string D4, .string D5] 28) = v13 at *
  generalize w13.heap.size = B13 at *
  clear cz ce cf
  refine ((HB.out _).1).mono ?_
  rintro e w14 ⟨rfl, hbq⟩
  have hst := below_trans' hbq hbq.size ((Below.refl w14.heap.size w14).alloc (Nat.le_refl _) (.cells #[.int .i64 lo, .int .i64 hi] 36))
  have t14 := heap_alloc_new w14 (.cells #[.int .i64 lo, .int .i64 hi] 36)
  replace T1 := blk_below hst T1
  replace T2 := blk_below hst T2
  replace T3 := blk_below hst T3
  replace t12 := blk_below hst t12
  replace t13 := blk_below hst t13
  replace hbr := below_trans' hbr hbr.size hst
  clear hst hbq
  have cz := cells2 T1
  have ce := cells5 T2
  have cf := cells5 T3
  go_wp2_with fail
  generalize w14.alloc (.cells #[.int .i64 lo, .int .i64 hi] 36) = v14 at *
  generalize w14.heap.size = B14 at *
  clear cz ce cf
  refine ((HB.out _).2).mono ?_
  rintro e w15 ⟨rfl, hbq⟩
  have hst := below_trans' hbq hbq.size ((Below.refl w15.heap.size w15).alloc (Nat.le_refl _) (.cells #[.int .i64 lo, .int .i64 hi] 36))
  have t15 := heap_alloc_new w15 (.cells #[.int .i64 lo, .int .i64 hi] 36)
  replace T1 := blk_below hst T1
  replace T2 := blk_below hst T2
  replace T3 := blk_below hst T3
  replace t12 := blk_below hst t12
  replace t13 := blk_below hst t13
  replace t14 := blk_below hst t14
  replace hbr := below_trans' hbr hbr.size hst
  clear hst hbq
  have m12 := cells5 t12
  have m13 := cells5 t13
  have m14 := cells2i t14
  have m15 := cells2i t15
  clear T1 T2 T3 t12 t13 t14 t15
  go_wp2_with fail
  go_ret
  exact ⟨rfl, hbr⟩
end Go.Proofs.YtpligjkbnlfhgaaGreatDoor
