/- The walk of EstimateTells. -/
import Derived.Test.YtpligjkbnlfhgaaGreatDoorEr8
import Derived.Test.YtpligjkbnlfhgaaGreatDoorNumB
namespace Go.Proofs.YtpligjkbnlfhgaaGreatDoor
open Go.RowKit

set_option maxRecDepth 100000 in
set_option maxHeartbeats 16000000 in
theorem estimateTells5 (a0 : Option Addr) (len0 cap0 : Nat) (a1 a2 a3 : Int) (w : World) (w0 : IsRows pK w a0 len0 cap0) (s0 : cap0 * 8 ≤ 140737488351232) (w1 : (Lit.int .u8 a1).wf = true) (w2 : (Lit.int .i64 a2).wf = true) (w3 : (Lit.int .i64 a3).wf = true) :
    Calls Tryz.prog 5 #[.slice a0 len0 cap0, .int .u8 a1, .int .i64 a2, .int .i64 a3] w fun e w' => e = .returned (.bool true) ∧ Below w.heap.size w w' := by
  have hs := bounds_u8 w1
  have ha2 := bounds_i64 w2
  have ha3 := bounds_i64 w3
  have hlc := w0.1
  obtain ⟨-, f, g, hr, hf, hg⟩ := rows_pairs w0
  have hn8 : len0 * 8 ≤ 140737488351232 := by omega
  have HP := Lib.hid (fun w (hr : Rd32 w a0 len0 f g) => pair42 a0 len0 cap0 a1 f g w hs hr hf hg hn8)
  obtain ⟨F, hF⟩ : ∃ F : Nat → Int, (fun i => numN a1 (f i)) = F := ⟨_, rfl⟩
  obtain ⟨G, hG⟩ : ∃ G : Nat → Int, (fun i => numN (a1 / 4) (g i)) = G := ⟨_, rfl⟩
  rw [hF, hG] at HP
  obtain ⟨k, hk⟩ : ∃ k, min len0 60 = k := ⟨_, rfl⟩
  rw [hk] at HP
  obtain ⟨K1, K2, x, TK, hK⟩ := frac_any ha2.1 ha2.2 ha3.1 ha3.2
  have sK := TK.lens
  have HK := Lib.hid hK
  clear w0 w1 w2 w3 hf hg hF hG hk s0 hlc hs ha2 ha3 TK hK
  go_enter Tryz.func5, Tryz.ntmps5
  go_wp2_with fail
  refine (awake35 w).mono ?_
  rintro e u0 ⟨rfl, hb0⟩
  go_wp2_with fail
  refine (HP.out u0 (hr.below hb0)).mono ?_
  rintro e u1 ⟨A1, c1, A2, c2, rfl, o1, o2, -, hb1⟩
  have hbr := below_trans' hb0 hb0.size hb1
  have i1 := o1.intsV
  have i2 := o2.intsV
  obtain ⟨M1, M2, ok1, hM⟩ := mean_two A1 k c1 F
  obtain ⟨C1, C2, ok2, hC⟩ := cov_two A1 A2 k k c1 c2 F G
  obtain ⟨O1, O2, O3, O4, O5, ok3, hO⟩ := of_two A1 k c1 F
  obtain ⟨R1, R2, R3, R4, R5, ok4, hR⟩ := ratio_two A1 A2 k k c1 c2 F G
  obtain ⟨J1, J2, J3, J4, J5, ok5, hJ⟩ := adj_two A1 A2 k k c1 c2 F G K1 K2 sK.1 sK.2
  have HM := Lib.hid hM
  have HC := Lib.hid hC
  have HO := Lib.hid hO
  have HR := Lib.hid hR
  have HJ := Lib.hid hJ
  clear HP hb1 hr hb0 o1 o2 hM hC hO hR hJ sK
  go_wp2_with fail
  refine (HK.out _).mono ?_
  rintro e w0 ⟨rfl, hbq⟩
  have hst := below_trans' hbq hbq.size ((Below.refl w0.heap.size w0).alloc (Nat.le_refl _) (.cells #[.string K1, .string K2] 26))
  have t0 := heap_alloc_new w0 (.cells #[.string K1, .string K2] 26)
  replace i1 := i1.below hst
  replace i2 := i2.below hst
  replace hbr := below_trans' hbr hbr.size hst
  clear hst hbq
  go_wp2_with fail
  generalize w0.alloc (.cells #[.string K1, .string K2] 26) = v0 at *
  generalize w0.heap.size = N0 at *
  refine ((HM.out _ i1).1).mono ?_
  rintro e w1 ⟨rfl, hbq⟩
  have hst := below_trans' hbq hbq.size ((Below.refl w1.heap.size w1).alloc (Nat.le_refl _) (.cells #[.string M1, .string M2] 26))
  have t1 := heap_alloc_new w1 (.cells #[.string M1, .string M2] 26)
  replace i1 := i1.below hst
  replace i2 := i2.below hst
  replace t0 := blk_below hst t0
  replace hbr := below_trans' hbr hbr.size hst
  clear hst hbq
  have q0 := cells2 t0
  go_wp2_with fail
  generalize w1.alloc (.cells #[.string M1, .string M2] 26) = v1 at *
  generalize w1.heap.size = N1 at *
  clear q0
  refine ((HM.out _ i1).2).mono ?_
  rintro e w2 ⟨rfl, hbq⟩
  have hst := below_trans' hbq hbq.size ((Below.refl w2.heap.size w2).alloc (Nat.le_refl _) (.cells #[.string M1, .string M2] 26))
  have t2 := heap_alloc_new w2 (.cells #[.string M1, .string M2] 26)
  replace i1 := i1.below hst
  replace i2 := i2.below hst
  replace t0 := blk_below hst t0
  replace t1 := blk_below hst t1
  replace hbr := below_trans' hbr hbr.size hst
  clear hst hbq
  have q0 := cells2 t0
  go_wp2_with fail
  generalize w2.alloc (.cells #[.string M1, .string M2] 26) = v2 at *
  generalize w2.heap.size = N2 at *
  clear q0
  refine ((HC.out _ i1 i2).1).mono ?_
  rintro e w3 ⟨rfl, hbq⟩
  have hst := below_trans' hbq hbq.size ((Below.refl w3.heap.size w3).alloc (Nat.le_refl _) (.cells #[.string C1, .string C2] 26))
  have t3 := heap_alloc_new w3 (.cells #[.string C1, .string C2] 26)
  replace i1 := i1.below hst
  replace i2 := i2.below hst
  replace t0 := blk_below hst t0
  replace t1 := blk_below hst t1
  replace t2 := blk_below hst t2
  replace hbr := below_trans' hbr hbr.size hst
  clear hst hbq
  have q0 := cells2 t0
  go_wp2_with fail
  generalize w3.alloc (.cells #[.string C1, .string C2] 26) = v3 at *
  generalize w3.heap.size = N3 at *
  clear q0
  refine ((HC.out _ i1 i2).2).mono ?_
  rintro e w4 ⟨rfl, hbq⟩
  have hst := below_trans' hbq hbq.size ((Below.refl w4.heap.size w4).alloc (Nat.le_refl _) (.cells #[.string C1, .string C2] 26))
  have t4 := heap_alloc_new w4 (.cells #[.string C1, .string C2] 26)
  replace i1 := i1.below hst
  replace i2 := i2.below hst
  replace t0 := blk_below hst t0
  replace t1 := blk_below hst t1
  replace t2 := blk_below hst t2
  replace t3 := blk_below hst t3
  replace hbr := below_trans' hbr hbr.size hst
  clear hst hbq
  have q0 := cells2 t0
  go_wp2_with fail
  generalize w4.alloc (.cells #[.string C1, .string C2] 26) = v4 at *
  generalize w4.heap.size = N4 at *
  clear q0
  refine ((HO.out _ i1).1).mono ?_
  rintro e w5 ⟨rfl, hbq⟩
  have hst := below_trans' hbq hbq.size ((Below.refl w5.heap.size w5).alloc (Nat.le_refl _) (.cells #[.int .i64 O1, .string O2, .string O3, .string O4, .string O5] 28))
  have t5 := heap_alloc_new w5 (.cells #[.int .i64 O1, .string O2, .string O3, .string O4, .string O5] 28)
  replace i1 := i1.below hst
  replace i2 := i2.below hst
  replace t0 := blk_below hst t0
  replace t1 := blk_below hst t1
  replace t2 := blk_below hst t2
  replace t3 := blk_below hst t3
  replace t4 := blk_below hst t4
  replace hbr := below_trans' hbr hbr.size hst
  clear hst hbq
  have q0 := cells2 t0
  go_wp2_with fail
  generalize w5.alloc (.cells #[.int .i64 O1, .string O2, .string O3, .string O4, .string O5] 28) = v5 at *
  generalize w5.heap.size = N5 at *
  clear q0
  refine ((HO.out _ i1).2).mono ?_
  rintro e w6 ⟨rfl, hbq⟩
  have hst := below_trans' hbq hbq.size ((Below.refl w6.heap.size w6).alloc (Nat.le_refl _) (.cells #[.int .i64 O1, .string O2, .string O3, .string O4, .string O5] 28))
  have t6 := heap_alloc_new w6 (.cells #[.int .i64 O1, .string O2, .string O3, .string O4, .string O5] 28)
  replace i1 := i1.below hst
  replace i2 := i2.below hst
  replace t0 := blk_below hst t0
  replace t1 := blk_below hst t1
  replace t2 := blk_below hst t2
  replace t3 := blk_below hst t3
  replace t4 := blk_below hst t4
  replace t5 := blk_below hst t5
  replace hbr := below_trans' hbr hbr.size hst
  clear hst hbq
  have q0 := cells2 t0
  go_wp2_with fail
  generalize w6.alloc (.cells #[.int .i64 O1, .string O2, .string O3, .string O4, .string O5] 28) = v6 at *
  generalize w6.heap.size = N6 at *
  clear q0
  refine ((HR.out _ i1 i2).1).mono ?_
  rintro e w7 ⟨rfl, hbq⟩
  have hst := below_trans' hbq hbq.size ((Below.refl w7.heap.size w7).alloc (Nat.le_refl _) (.cells #[.int .i64 R1, .string R2, .string R3, .string R4, .string R5] 28))
  have t7 := heap_alloc_new w7 (.cells #[.int .i64 R1, .string R2, .string R3, .string R4, .string R5] 28)
  replace i1 := i1.below hst
  replace i2 := i2.below hst
  replace t0 := blk_below hst t0
  replace t1 := blk_below hst t1
  replace t2 := blk_below hst t2
  replace t3 := blk_below hst t3
  replace t4 := blk_below hst t4
  replace t5 := blk_below hst t5
  replace t6 := blk_below hst t6
  replace hbr := below_trans' hbr hbr.size hst
  clear hst hbq
  have q0 := cells2 t0
  go_wp2_with fail
  generalize w7.alloc (.cells #[.int .i64 R1, .string R2, .string R3, .string R4, .string R5] 28) = v7 at *
  generalize w7.heap.size = N7 at *
  clear q0
  refine ((HR.out _ i1 i2).2).mono ?_
  rintro e w8 ⟨rfl, hbq⟩
  have hst := below_trans' hbq hbq.size ((Below.refl w8.heap.size w8).alloc (Nat.le_refl _) (.cells #[.int .i64 R1, .string R2, .string R3, .string R4, .string R5] 28))
  have t8 := heap_alloc_new w8 (.cells #[.int .i64 R1, .string R2, .string R3, .string R4, .string R5] 28)
  replace i1 := i1.below hst
  replace i2 := i2.below hst
  replace t0 := blk_below hst t0
  replace t1 := blk_below hst t1
  replace t2 := blk_below hst t2
  replace t3 := blk_below hst t3
  replace t4 := blk_below hst t4
  replace t5 := blk_below hst t5
  replace t6 := blk_below hst t6
  replace t7 := blk_below hst t7
  replace hbr := below_trans' hbr hbr.size hst
  clear hst hbq
  have q0 := cells2 t0
  go_wp2_with fail
  generalize w8.alloc (.cells #[.int .i64 R1, .string R2, .string R3, .string R4, .string R5] 28) = v8 at *
  generalize w8.heap.size = N8 at *
  clear q0
  refine ((HJ.out _ i1 i2).1).mono ?_
  rintro e w9 ⟨rfl, hbq⟩
  have hst := below_trans' hbq hbq.size ((Below.refl w9.heap.size w9).alloc (Nat.le_refl _) (.cells #[.int .i64 J1, .string J2, .string J3, .string J4, .string J5] 28))
  have t9 := heap_alloc_new w9 (.cells #[.int .i64 J1, .string J2, .string J3, .string J4, .string J5] 28)
  replace i1 := i1.below hst
  replace i2 := i2.below hst
  replace t0 := blk_below hst t0
  replace t1 := blk_below hst t1
  replace t2 := blk_below hst t2
  replace t3 := blk_below hst t3
  replace t4 := blk_below hst t4
  replace t5 := blk_below hst t5
  replace t6 := blk_below hst t6
  replace t7 := blk_below hst t7
  replace t8 := blk_below hst t8
  replace hbr := below_trans' hbr hbr.size hst
  clear hst hbq
  have q0 := cells2 t0
  go_wp2_with fail
  generalize w9.alloc (.cells #[.int .i64 J1, .string J2, .string J3, .string J4, .string J5] 28) = v9 at *
  generalize w9.heap.size = N9 at *
  clear q0
  refine ((HJ.out _ i1 i2).2).mono ?_
  rintro e w10 ⟨rfl, hbq⟩
  have hst := below_trans' hbq hbq.size ((Below.refl w10.heap.size w10).alloc (Nat.le_refl _) (.cells #[.int .i64 J1, .string J2, .string J3, .string J4, .string J5] 28))
  have t10 := heap_alloc_new w10 (.cells #[.int .i64 J1, .string J2, .string J3, .string J4, .string J5] 28)
  replace i1 := i1.below hst
  replace i2 := i2.below hst
  replace t0 := blk_below hst t0
  replace t1 := blk_below hst t1
  replace t2 := blk_below hst t2
  replace t3 := blk_below hst t3
  replace t4 := blk_below hst t4
  replace t5 := blk_below hst t5
  replace t6 := blk_below hst t6
  replace t7 := blk_below hst t7
  replace t8 := blk_below hst t8
  replace t9 := blk_below hst t9
  replace hbr := below_trans' hbr hbr.size hst
  clear hst hbq
  have m1 := cells2 t1
  have m2 := cells2 t2
  have m3 := cells2 t3
  have m4 := cells2 t4
  have m5 := cells5 t5
  have m6 := cells5 t6
  have m7 := cells5 t7
  have m8 := cells5 t8
  have m9 := cells5 t9
  have m10 := cells5 t10
  clear t0 t1 t2 t3 t4 t5 t6 t7 t8 t9 t10
  go_wp2_with fail

  go_ret
  exact ⟨rfl, hbr⟩
end Go.Proofs.YtpligjkbnlfhgaaGreatDoor
