/- Difference of chapter 38 for any texts. No statement is proved here. -/
import Derived.Test.YtpligjkbnlfhgaaGreatDoorDf0
import Derived.Test.YtpligjkbnlfhgaaGreatDoorEr
import Derived.Deep.RegionHeld3
namespace Go.Proofs.YtpligjkbnlfhgaaGreatDoor
open Go.RowKit

/-- What Difference hands back. -/
def diffV (ok1 ok2 : Bool) (k : Int) (A B C D : ByteArray) : Value := if (ok1 && ok2) = true then .tuple #[estV k A B C D, .bool true] else .tuple #[estV 0 ⟨#[]⟩ ⟨#[]⟩ ⟨#[]⟩ ⟨#[]⟩, .bool false]

set_option maxRecDepth 100000 in
set_option maxHeartbeats 8000000 in
theorem diff10_0 (n m : Int) (X1 Y1 V1 W1 X2 Y2 V2 W2 A B C D : ByteArray) (w : World)
    (h1 : ∀ w, Calls Tryz.prog 71 #[.agg #[.string X2, .string Y2], .agg #[.string X1, .string Y1]] w fun e w' => e = .returned (.tuple #[.agg #[.string A, .string B], .bool true]) ∧ Below w.heap.size w w')
    (h2 : ∀ w, Calls Tryz.prog 72 #[.agg #[.string V1, .string W1], .agg #[.string V2, .string W2]] w fun e w' => e = .returned (.tuple #[.agg #[.string C, .string D], .bool true]) ∧ Below w.heap.size w w') :
    Calls Tryz.prog 10 #[estV n X1 Y1 V1 W1, estV m X2 Y2 V2 W2] w fun e w' => e = .returned (.tuple #[.agg #[.int .i64 (IntKind.i64.wrap (n + m)), .string A, .string B, .string C, .string D], .bool true]) ∧ Below w.heap.size w w' := by
  obtain ⟨hbW, g0, g1, g2, g3⟩ := allocs4 w #[.int .i64 n, .string X1, .string Y1, .string V1, .string W1] #[.int .i64 m, .string X2, .string Y2, .string V2, .string W2] #[.int .i64 0, .string ⟨#[]⟩, .string ⟨#[]⟩, .string ⟨#[]⟩, .string ⟨#[]⟩] #[.bool false] 28 28 28 64
  go_enter Tryz.func10, Tryz.ntmps10
  go_upto_region 2 with fail
  generalize (((w.alloc (.cells #[.int .i64 n, .string X1, .string Y1, .string V1, .string W1] 28)).alloc (.cells #[.int .i64 m, .string X2, .string Y2, .string V2, .string W2] 28)).alloc (.cells #[.int .i64 0, .string ⟨#[]⟩, .string ⟨#[]⟩, .string ⟨#[]⟩, .string ⟨#[]⟩] 28)).alloc (.cells #[.bool false] 64) = W at *
  have hsz : w.heap.size + 1 + 1 + 1 < W.heap.size := lt_of_blk g3
  have hbd : Below W.heap.size W W.drew := (Below.refl _ _).drew
  have k0 := cells5 (blk_below hbd g0)
  have k1 := cells5 (blk_below hbd g1)
  have F0 : Flag 64 (w.heap.size + 1 + 1 + 1) false W.drew := blk_below hbd g3
  have ne0 : w.heap.size ≠ w.heap.size + 1 + 1 + 1 := by omega
  have ne1 : w.heap.size + 1 ≠ w.heap.size + 1 + 1 + 1 := by omega
  have ne2 : w.heap.size + 1 + 1 ≠ w.heap.size + 1 + 1 + 1 := by omega
  have nz0 : w.heap.size ≠ w.heap.size + 1 + 1 := by omega
  have nz1 : w.heap.size + 1 ≠ w.heap.size + 1 + 1 := by omega
  go_region_held3 (fun w' => (w'.cell? ⟨w.heap.size, 0, none⟩ = some (.int .i64 n) ∧ w'.cell? ⟨w.heap.size, 1, none⟩ = some (.string X1) ∧ w'.cell? ⟨w.heap.size, 2, none⟩ = some (.string Y1) ∧ w'.cell? ⟨w.heap.size, 3, none⟩ = some (.string V1) ∧ w'.cell? ⟨w.heap.size, 4, none⟩ = some (.string W1)) ∧ (w'.cell? ⟨w.heap.size + 1, 0, none⟩ = some (.int .i64 m) ∧ w'.cell? ⟨w.heap.size + 1, 1, none⟩ = some (.string X2) ∧ w'.cell? ⟨w.heap.size + 1, 2, none⟩ = some (.string Y2) ∧ w'.cell? ⟨w.heap.size + 1, 3, none⟩ = some (.string V2) ∧ w'.cell? ⟨w.heap.size + 1, 4, none⟩ = some (.string W2)))
    (first | with_reducible exact ⟨c5set (c5set (c5set (c5set (c5set n0 nz0) nz0) nz0) nz0) nz0, c5set (c5set (c5set (c5set (c5set n1 nz1) nz1) nz1) nz1) nz1⟩ | with_reducible exact ⟨n0, n1⟩ | with_reducible exact ⟨m0, m1⟩ | with_reducible exact ⟨l0, l1⟩ | with_reducible exact ⟨k0, k1⟩)
    (first
      | (go_at_call 33; with_reducible refine (sub33f (w.heap.size + 1 + 1 + 1) false true X2 Y2 X1 Y1 A B _ F0 h1).mono ?_; rintro e w1 ⟨rfl, q1, F1⟩; have l0 := cells5 (blk_grown q1 (blk_below hbd g0) ne0); have l1 := cells5 (blk_grown q1 (blk_below hbd g1) ne1))
      | (go_at_call 34; with_reducible refine (add34f (w.heap.size + 1 + 1 + 1) _ true V1 W1 V2 W2 C D _ F1 h2).mono ?_; rintro e w2 ⟨rfl, q2, F2⟩; have m0 := cells5 (blk_grown q2 (blk_grown q1 (blk_below hbd g0) ne0) ne0); have m1 := cells5 (blk_grown q2 (blk_grown q1 (blk_below hbd g1) ne1) ne1); have F2' : w2.heap[w.heap.size + 1 + 1 + 1]? = some (.cells #[.bool false] 64 (0, 0)) := by (unfold Flag at F2; simpa using F2))
      | (go_at_call 32; with_reducible refine (estimate86 (w.heap.size + 1 + 1 + 1) (IntKind.i64.wrap (n + m)) A B C D _ F2').mono ?_; rintro e w3 ⟨rfl, hb3⟩; have n0 := cells5 (blk_below hb3 (blk_grown q2 (blk_grown q1 (blk_below hbd g0) ne0) ne0)); have n1 := cells5 (blk_below hb3 (blk_grown q2 (blk_grown q1 (blk_below hbd g1) ne1) ne1)); have G := blk_below hb3 (blk_grown q2 (blk_grown q1 (blk_below hbd g2) ne2) ne2); have fz := free_of_block G; have kz := cells5 G))
  have hB1 := below_grown (hbW.trans (hbd.mono hbW.size)) q1 (Nat.le_trans hbW.size hbd.size) (show w.heap.size ≤ w.heap.size + 1 + 1 + 1 by omega)
  have hB2 := below_grown hB1 q2 hB1.size (show w.heap.size ≤ w.heap.size + 1 + 1 + 1 by omega)
  have hB3 := below_trans' hB2 hB2.size hb3
  obtain ⟨u0, u1, u2, u3, u4⟩ := cells5 (set5 G (.int .i64 (IntKind.i64.wrap (n + m))) (.string A) (.string B) (.string C) (.string D))
  have hbe := below_sets5 hB3 (show w.heap.size ≤ w.heap.size + 1 + 1 by omega) (.int .i64 (IntKind.i64.wrap (n + m))) (.string A) (.string B) (.string C) (.string D)
  clear k0 k1 l0 l1 m0 m1 n0 n1 fz kz hB1 hB2 hB3 hb3 q1 q2 F0 F1 F2 F2' g0 g1 g2 g3 G
  generalize (((((w3.setCell ⟨w.heap.size + 1 + 1, 0, none⟩ (.int .i64 (IntKind.i64.wrap (n + m)))).setCell ⟨w.heap.size + 1 + 1, 1, none⟩ (.string A)).setCell ⟨w.heap.size + 1 + 1, 2, none⟩ (.string B)).setCell ⟨w.heap.size + 1 + 1, 3, none⟩ (.string C)).setCell ⟨w.heap.size + 1 + 1, 4, none⟩ (.string D)) = wz at *
  go_wp2_with fail
  exact bodyPost_ret (v := .tuple #[.agg #[.int .i64 (IntKind.i64.wrap (n + m)), .string A, .string B, .string C, .string D], .bool true]) (by simp [results, Tryz.results10, go_sem, u0, u1, u2, u3, u4]) rfl ⟨rfl, hbe⟩

set_option maxRecDepth 100000 in
set_option maxHeartbeats 8000000 in
theorem diff10_1 (n m : Int) (X1 Y1 V1 W1 X2 Y2 V2 W2 A B C D : ByteArray) (w : World)
    (h1 : ∀ w, Calls Tryz.prog 71 #[.agg #[.string X2, .string Y2], .agg #[.string X1, .string Y1]] w fun e w' => e = .returned (.tuple #[.agg #[.string A, .string B], .bool true]) ∧ Below w.heap.size w w')
    (h2 : ∀ w, Calls Tryz.prog 72 #[.agg #[.string V1, .string W1], .agg #[.string V2, .string W2]] w fun e w' => e = .returned (.tuple #[.agg #[.string C, .string D], .bool false]) ∧ Below w.heap.size w w') :
    Calls Tryz.prog 10 #[estV n X1 Y1 V1 W1, estV m X2 Y2 V2 W2] w fun e w' => e = .returned (.tuple #[.agg #[.int .i64 0, .string ⟨#[]⟩, .string ⟨#[]⟩, .string ⟨#[]⟩, .string ⟨#[]⟩], .bool false]) ∧ Below w.heap.size w w' := by
  obtain ⟨hbW, g0, g1, g2, g3⟩ := allocs4 w #[.int .i64 n, .string X1, .string Y1, .string V1, .string W1] #[.int .i64 m, .string X2, .string Y2, .string V2, .string W2] #[.int .i64 0, .string ⟨#[]⟩, .string ⟨#[]⟩, .string ⟨#[]⟩, .string ⟨#[]⟩] #[.bool false] 28 28 28 64
  go_enter Tryz.func10, Tryz.ntmps10
  go_upto_region 2 with fail
  generalize (((w.alloc (.cells #[.int .i64 n, .string X1, .string Y1, .string V1, .string W1] 28)).alloc (.cells #[.int .i64 m, .string X2, .string Y2, .string V2, .string W2] 28)).alloc (.cells #[.int .i64 0, .string ⟨#[]⟩, .string ⟨#[]⟩, .string ⟨#[]⟩, .string ⟨#[]⟩] 28)).alloc (.cells #[.bool false] 64) = W at *
  have hsz : w.heap.size + 1 + 1 + 1 < W.heap.size := lt_of_blk g3
  have hbd : Below W.heap.size W W.drew := (Below.refl _ _).drew
  have k0 := cells5 (blk_below hbd g0)
  have k1 := cells5 (blk_below hbd g1)
  have F0 : Flag 64 (w.heap.size + 1 + 1 + 1) false W.drew := blk_below hbd g3
  have ne0 : w.heap.size ≠ w.heap.size + 1 + 1 + 1 := by omega
  have ne1 : w.heap.size + 1 ≠ w.heap.size + 1 + 1 + 1 := by omega
  have ne2 : w.heap.size + 1 + 1 ≠ w.heap.size + 1 + 1 + 1 := by omega
  have nz0 : w.heap.size ≠ w.heap.size + 1 + 1 := by omega
  have nz1 : w.heap.size + 1 ≠ w.heap.size + 1 + 1 := by omega
  go_region_held3 (fun w' => (w'.cell? ⟨w.heap.size, 0, none⟩ = some (.int .i64 n) ∧ w'.cell? ⟨w.heap.size, 1, none⟩ = some (.string X1) ∧ w'.cell? ⟨w.heap.size, 2, none⟩ = some (.string Y1) ∧ w'.cell? ⟨w.heap.size, 3, none⟩ = some (.string V1) ∧ w'.cell? ⟨w.heap.size, 4, none⟩ = some (.string W1)) ∧ (w'.cell? ⟨w.heap.size + 1, 0, none⟩ = some (.int .i64 m) ∧ w'.cell? ⟨w.heap.size + 1, 1, none⟩ = some (.string X2) ∧ w'.cell? ⟨w.heap.size + 1, 2, none⟩ = some (.string Y2) ∧ w'.cell? ⟨w.heap.size + 1, 3, none⟩ = some (.string V2) ∧ w'.cell? ⟨w.heap.size + 1, 4, none⟩ = some (.string W2)))
    (first | with_reducible exact ⟨c5set (c5set (c5set (c5set (c5set n0 nz0) nz0) nz0) nz0) nz0, c5set (c5set (c5set (c5set (c5set n1 nz1) nz1) nz1) nz1) nz1⟩ | with_reducible exact ⟨n0, n1⟩ | with_reducible exact ⟨m0, m1⟩ | with_reducible exact ⟨l0, l1⟩ | with_reducible exact ⟨k0, k1⟩)
    (first
      | (go_at_call 33; with_reducible refine (sub33f (w.heap.size + 1 + 1 + 1) false true X2 Y2 X1 Y1 A B _ F0 h1).mono ?_; rintro e w1 ⟨rfl, q1, F1⟩; have l0 := cells5 (blk_grown q1 (blk_below hbd g0) ne0); have l1 := cells5 (blk_grown q1 (blk_below hbd g1) ne1))
      | (go_at_call 34; with_reducible refine (add34f (w.heap.size + 1 + 1 + 1) _ false V1 W1 V2 W2 C D _ F1 h2).mono ?_; rintro e w2 ⟨rfl, q2, F2⟩; have m0 := cells5 (blk_grown q2 (blk_grown q1 (blk_below hbd g0) ne0) ne0); have m1 := cells5 (blk_grown q2 (blk_grown q1 (blk_below hbd g1) ne1) ne1); have F2' : w2.heap[w.heap.size + 1 + 1 + 1]? = some (.cells #[.bool true] 64 (0, 0)) := by (unfold Flag at F2; simpa using F2))
      | (go_at_call 32; with_reducible refine (estimate86_bad (w.heap.size + 1 + 1 + 1) (IntKind.i64.wrap (n + m)) A B C D _ F2').mono ?_; rintro e w3 ⟨rfl, hb3⟩; have n0 := cells5 (blk_below hb3 (blk_grown q2 (blk_grown q1 (blk_below hbd g0) ne0) ne0)); have n1 := cells5 (blk_below hb3 (blk_grown q2 (blk_grown q1 (blk_below hbd g1) ne1) ne1)); have G := blk_below hb3 (blk_grown q2 (blk_grown q1 (blk_below hbd g2) ne2) ne2); have fz := free_of_block G; have kz := cells5 G))
  have hB1 := below_grown (hbW.trans (hbd.mono hbW.size)) q1 (Nat.le_trans hbW.size hbd.size) (show w.heap.size ≤ w.heap.size + 1 + 1 + 1 by omega)
  have hB2 := below_grown hB1 q2 hB1.size (show w.heap.size ≤ w.heap.size + 1 + 1 + 1 by omega)
  have hB3 := below_trans' hB2 hB2.size hb3
  obtain ⟨u0, u1, u2, u3, u4⟩ := cells5 (set5 G (.int .i64 0) (.string ⟨#[]⟩) (.string ⟨#[]⟩) (.string ⟨#[]⟩) (.string ⟨#[]⟩))
  have hbe := below_sets5 hB3 (show w.heap.size ≤ w.heap.size + 1 + 1 by omega) (.int .i64 0) (.string ⟨#[]⟩) (.string ⟨#[]⟩) (.string ⟨#[]⟩) (.string ⟨#[]⟩)
  clear k0 k1 l0 l1 m0 m1 n0 n1 fz kz hB1 hB2 hB3 hb3 q1 q2 F0 F1 F2 F2' g0 g1 g2 g3 G
  generalize (((((w3.setCell ⟨w.heap.size + 1 + 1, 0, none⟩ (.int .i64 0)).setCell ⟨w.heap.size + 1 + 1, 1, none⟩ (.string ⟨#[]⟩)).setCell ⟨w.heap.size + 1 + 1, 2, none⟩ (.string ⟨#[]⟩)).setCell ⟨w.heap.size + 1 + 1, 3, none⟩ (.string ⟨#[]⟩)).setCell ⟨w.heap.size + 1 + 1, 4, none⟩ (.string ⟨#[]⟩)) = wz at *
  go_wp2_with fail
  exact bodyPost_ret (v := .tuple #[.agg #[.int .i64 0, .string ⟨#[]⟩, .string ⟨#[]⟩, .string ⟨#[]⟩, .string ⟨#[]⟩], .bool false]) (by simp [results, Tryz.results10, go_sem, u0, u1, u2, u3, u4]) rfl ⟨rfl, hbe⟩

set_option maxRecDepth 100000 in
set_option maxHeartbeats 8000000 in
theorem diff10_2 (n m : Int) (X1 Y1 V1 W1 X2 Y2 V2 W2 A B C D : ByteArray) (w : World)
    (h1 : ∀ w, Calls Tryz.prog 71 #[.agg #[.string X2, .string Y2], .agg #[.string X1, .string Y1]] w fun e w' => e = .returned (.tuple #[.agg #[.string A, .string B], .bool false]) ∧ Below w.heap.size w w')
    (h2 : ∀ w, Calls Tryz.prog 72 #[.agg #[.string V1, .string W1], .agg #[.string V2, .string W2]] w fun e w' => e = .returned (.tuple #[.agg #[.string C, .string D], .bool true]) ∧ Below w.heap.size w w') :
    Calls Tryz.prog 10 #[estV n X1 Y1 V1 W1, estV m X2 Y2 V2 W2] w fun e w' => e = .returned (.tuple #[.agg #[.int .i64 0, .string ⟨#[]⟩, .string ⟨#[]⟩, .string ⟨#[]⟩, .string ⟨#[]⟩], .bool false]) ∧ Below w.heap.size w w' := by
  obtain ⟨hbW, g0, g1, g2, g3⟩ := allocs4 w #[.int .i64 n, .string X1, .string Y1, .string V1, .string W1] #[.int .i64 m, .string X2, .string Y2, .string V2, .string W2] #[.int .i64 0, .string ⟨#[]⟩, .string ⟨#[]⟩, .string ⟨#[]⟩, .string ⟨#[]⟩] #[.bool false] 28 28 28 64
  go_enter Tryz.func10, Tryz.ntmps10
  go_upto_region 2 with fail
  generalize (((w.alloc (.cells #[.int .i64 n, .string X1, .string Y1, .string V1, .string W1] 28)).alloc (.cells #[.int .i64 m, .string X2, .string Y2, .string V2, .string W2] 28)).alloc (.cells #[.int .i64 0, .string ⟨#[]⟩, .string ⟨#[]⟩, .string ⟨#[]⟩, .string ⟨#[]⟩] 28)).alloc (.cells #[.bool false] 64) = W at *
  have hsz : w.heap.size + 1 + 1 + 1 < W.heap.size := lt_of_blk g3
  have hbd : Below W.heap.size W W.drew := (Below.refl _ _).drew
  have k0 := cells5 (blk_below hbd g0)
  have k1 := cells5 (blk_below hbd g1)
  have F0 : Flag 64 (w.heap.size + 1 + 1 + 1) false W.drew := blk_below hbd g3
  have ne0 : w.heap.size ≠ w.heap.size + 1 + 1 + 1 := by omega
  have ne1 : w.heap.size + 1 ≠ w.heap.size + 1 + 1 + 1 := by omega
  have ne2 : w.heap.size + 1 + 1 ≠ w.heap.size + 1 + 1 + 1 := by omega
  have nz0 : w.heap.size ≠ w.heap.size + 1 + 1 := by omega
  have nz1 : w.heap.size + 1 ≠ w.heap.size + 1 + 1 := by omega
  go_region_held3 (fun w' => (w'.cell? ⟨w.heap.size, 0, none⟩ = some (.int .i64 n) ∧ w'.cell? ⟨w.heap.size, 1, none⟩ = some (.string X1) ∧ w'.cell? ⟨w.heap.size, 2, none⟩ = some (.string Y1) ∧ w'.cell? ⟨w.heap.size, 3, none⟩ = some (.string V1) ∧ w'.cell? ⟨w.heap.size, 4, none⟩ = some (.string W1)) ∧ (w'.cell? ⟨w.heap.size + 1, 0, none⟩ = some (.int .i64 m) ∧ w'.cell? ⟨w.heap.size + 1, 1, none⟩ = some (.string X2) ∧ w'.cell? ⟨w.heap.size + 1, 2, none⟩ = some (.string Y2) ∧ w'.cell? ⟨w.heap.size + 1, 3, none⟩ = some (.string V2) ∧ w'.cell? ⟨w.heap.size + 1, 4, none⟩ = some (.string W2)))
    (first | with_reducible exact ⟨c5set (c5set (c5set (c5set (c5set n0 nz0) nz0) nz0) nz0) nz0, c5set (c5set (c5set (c5set (c5set n1 nz1) nz1) nz1) nz1) nz1⟩ | with_reducible exact ⟨n0, n1⟩ | with_reducible exact ⟨m0, m1⟩ | with_reducible exact ⟨l0, l1⟩ | with_reducible exact ⟨k0, k1⟩)
    (first
      | (go_at_call 33; with_reducible refine (sub33f (w.heap.size + 1 + 1 + 1) false false X2 Y2 X1 Y1 A B _ F0 h1).mono ?_; rintro e w1 ⟨rfl, q1, F1⟩; have l0 := cells5 (blk_grown q1 (blk_below hbd g0) ne0); have l1 := cells5 (blk_grown q1 (blk_below hbd g1) ne1))
      | (go_at_call 34; with_reducible refine (add34f (w.heap.size + 1 + 1 + 1) _ true V1 W1 V2 W2 C D _ F1 h2).mono ?_; rintro e w2 ⟨rfl, q2, F2⟩; have m0 := cells5 (blk_grown q2 (blk_grown q1 (blk_below hbd g0) ne0) ne0); have m1 := cells5 (blk_grown q2 (blk_grown q1 (blk_below hbd g1) ne1) ne1); have F2' : w2.heap[w.heap.size + 1 + 1 + 1]? = some (.cells #[.bool true] 64 (0, 0)) := by (unfold Flag at F2; simpa using F2))
      | (go_at_call 32; with_reducible refine (estimate86_bad (w.heap.size + 1 + 1 + 1) (IntKind.i64.wrap (n + m)) A B C D _ F2').mono ?_; rintro e w3 ⟨rfl, hb3⟩; have n0 := cells5 (blk_below hb3 (blk_grown q2 (blk_grown q1 (blk_below hbd g0) ne0) ne0)); have n1 := cells5 (blk_below hb3 (blk_grown q2 (blk_grown q1 (blk_below hbd g1) ne1) ne1)); have G := blk_below hb3 (blk_grown q2 (blk_grown q1 (blk_below hbd g2) ne2) ne2); have fz := free_of_block G; have kz := cells5 G))
  have hB1 := below_grown (hbW.trans (hbd.mono hbW.size)) q1 (Nat.le_trans hbW.size hbd.size) (show w.heap.size ≤ w.heap.size + 1 + 1 + 1 by omega)
  have hB2 := below_grown hB1 q2 hB1.size (show w.heap.size ≤ w.heap.size + 1 + 1 + 1 by omega)
  have hB3 := below_trans' hB2 hB2.size hb3
  obtain ⟨u0, u1, u2, u3, u4⟩ := cells5 (set5 G (.int .i64 0) (.string ⟨#[]⟩) (.string ⟨#[]⟩) (.string ⟨#[]⟩) (.string ⟨#[]⟩))
  have hbe := below_sets5 hB3 (show w.heap.size ≤ w.heap.size + 1 + 1 by omega) (.int .i64 0) (.string ⟨#[]⟩) (.string ⟨#[]⟩) (.string ⟨#[]⟩) (.string ⟨#[]⟩)
  clear k0 k1 l0 l1 m0 m1 n0 n1 fz kz hB1 hB2 hB3 hb3 q1 q2 F0 F1 F2 F2' g0 g1 g2 g3 G
  generalize (((((w3.setCell ⟨w.heap.size + 1 + 1, 0, none⟩ (.int .i64 0)).setCell ⟨w.heap.size + 1 + 1, 1, none⟩ (.string ⟨#[]⟩)).setCell ⟨w.heap.size + 1 + 1, 2, none⟩ (.string ⟨#[]⟩)).setCell ⟨w.heap.size + 1 + 1, 3, none⟩ (.string ⟨#[]⟩)).setCell ⟨w.heap.size + 1 + 1, 4, none⟩ (.string ⟨#[]⟩)) = wz at *
  go_wp2_with fail
  exact bodyPost_ret (v := .tuple #[.agg #[.int .i64 0, .string ⟨#[]⟩, .string ⟨#[]⟩, .string ⟨#[]⟩, .string ⟨#[]⟩], .bool false]) (by simp [results, Tryz.results10, go_sem, u0, u1, u2, u3, u4]) rfl ⟨rfl, hbe⟩

set_option maxRecDepth 100000 in
set_option maxHeartbeats 8000000 in
theorem diff10_3 (n m : Int) (X1 Y1 V1 W1 X2 Y2 V2 W2 A B C D : ByteArray) (w : World)
    (h1 : ∀ w, Calls Tryz.prog 71 #[.agg #[.string X2, .string Y2], .agg #[.string X1, .string Y1]] w fun e w' => e = .returned (.tuple #[.agg #[.string A, .string B], .bool false]) ∧ Below w.heap.size w w')
    (h2 : ∀ w, Calls Tryz.prog 72 #[.agg #[.string V1, .string W1], .agg #[.string V2, .string W2]] w fun e w' => e = .returned (.tuple #[.agg #[.string C, .string D], .bool false]) ∧ Below w.heap.size w w') :
    Calls Tryz.prog 10 #[estV n X1 Y1 V1 W1, estV m X2 Y2 V2 W2] w fun e w' => e = .returned (.tuple #[.agg #[.int .i64 0, .string ⟨#[]⟩, .string ⟨#[]⟩, .string ⟨#[]⟩, .string ⟨#[]⟩], .bool false]) ∧ Below w.heap.size w w' := by
  obtain ⟨hbW, g0, g1, g2, g3⟩ := allocs4 w #[.int .i64 n, .string X1, .string Y1, .string V1, .string W1] #[.int .i64 m, .string X2, .string Y2, .string V2, .string W2] #[.int .i64 0, .string ⟨#[]⟩, .string ⟨#[]⟩, .string ⟨#[]⟩, .string ⟨#[]⟩] #[.bool false] 28 28 28 64
  go_enter Tryz.func10, Tryz.ntmps10
  go_upto_region 2 with fail
  generalize (((w.alloc (.cells #[.int .i64 n, .string X1, .string Y1, .string V1, .string W1] 28)).alloc (.cells #[.int .i64 m, .string X2, .string Y2, .string V2, .string W2] 28)).alloc (.cells #[.int .i64 0, .string ⟨#[]⟩, .string ⟨#[]⟩, .string ⟨#[]⟩, .string ⟨#[]⟩] 28)).alloc (.cells #[.bool false] 64) = W at *
  have hsz : w.heap.size + 1 + 1 + 1 < W.heap.size := lt_of_blk g3
  have hbd : Below W.heap.size W W.drew := (Below.refl _ _).drew
  have k0 := cells5 (blk_below hbd g0)
  have k1 := cells5 (blk_below hbd g1)
  have F0 : Flag 64 (w.heap.size + 1 + 1 + 1) false W.drew := blk_below hbd g3
  have ne0 : w.heap.size ≠ w.heap.size + 1 + 1 + 1 := by omega
  have ne1 : w.heap.size + 1 ≠ w.heap.size + 1 + 1 + 1 := by omega
  have ne2 : w.heap.size + 1 + 1 ≠ w.heap.size + 1 + 1 + 1 := by omega
  have nz0 : w.heap.size ≠ w.heap.size + 1 + 1 := by omega
  have nz1 : w.heap.size + 1 ≠ w.heap.size + 1 + 1 := by omega
  go_region_held3 (fun w' => (w'.cell? ⟨w.heap.size, 0, none⟩ = some (.int .i64 n) ∧ w'.cell? ⟨w.heap.size, 1, none⟩ = some (.string X1) ∧ w'.cell? ⟨w.heap.size, 2, none⟩ = some (.string Y1) ∧ w'.cell? ⟨w.heap.size, 3, none⟩ = some (.string V1) ∧ w'.cell? ⟨w.heap.size, 4, none⟩ = some (.string W1)) ∧ (w'.cell? ⟨w.heap.size + 1, 0, none⟩ = some (.int .i64 m) ∧ w'.cell? ⟨w.heap.size + 1, 1, none⟩ = some (.string X2) ∧ w'.cell? ⟨w.heap.size + 1, 2, none⟩ = some (.string Y2) ∧ w'.cell? ⟨w.heap.size + 1, 3, none⟩ = some (.string V2) ∧ w'.cell? ⟨w.heap.size + 1, 4, none⟩ = some (.string W2)))
    (first | with_reducible exact ⟨c5set (c5set (c5set (c5set (c5set n0 nz0) nz0) nz0) nz0) nz0, c5set (c5set (c5set (c5set (c5set n1 nz1) nz1) nz1) nz1) nz1⟩ | with_reducible exact ⟨n0, n1⟩ | with_reducible exact ⟨m0, m1⟩ | with_reducible exact ⟨l0, l1⟩ | with_reducible exact ⟨k0, k1⟩)
    (first
      | (go_at_call 33; with_reducible refine (sub33f (w.heap.size + 1 + 1 + 1) false false X2 Y2 X1 Y1 A B _ F0 h1).mono ?_; rintro e w1 ⟨rfl, q1, F1⟩; have l0 := cells5 (blk_grown q1 (blk_below hbd g0) ne0); have l1 := cells5 (blk_grown q1 (blk_below hbd g1) ne1))
      | (go_at_call 34; with_reducible refine (add34f (w.heap.size + 1 + 1 + 1) _ false V1 W1 V2 W2 C D _ F1 h2).mono ?_; rintro e w2 ⟨rfl, q2, F2⟩; have m0 := cells5 (blk_grown q2 (blk_grown q1 (blk_below hbd g0) ne0) ne0); have m1 := cells5 (blk_grown q2 (blk_grown q1 (blk_below hbd g1) ne1) ne1); have F2' : w2.heap[w.heap.size + 1 + 1 + 1]? = some (.cells #[.bool true] 64 (0, 0)) := by (unfold Flag at F2; simpa using F2))
      | (go_at_call 32; with_reducible refine (estimate86_bad (w.heap.size + 1 + 1 + 1) (IntKind.i64.wrap (n + m)) A B C D _ F2').mono ?_; rintro e w3 ⟨rfl, hb3⟩; have n0 := cells5 (blk_below hb3 (blk_grown q2 (blk_grown q1 (blk_below hbd g0) ne0) ne0)); have n1 := cells5 (blk_below hb3 (blk_grown q2 (blk_grown q1 (blk_below hbd g1) ne1) ne1)); have G := blk_below hb3 (blk_grown q2 (blk_grown q1 (blk_below hbd g2) ne2) ne2); have fz := free_of_block G; have kz := cells5 G))
  have hB1 := below_grown (hbW.trans (hbd.mono hbW.size)) q1 (Nat.le_trans hbW.size hbd.size) (show w.heap.size ≤ w.heap.size + 1 + 1 + 1 by omega)
  have hB2 := below_grown hB1 q2 hB1.size (show w.heap.size ≤ w.heap.size + 1 + 1 + 1 by omega)
  have hB3 := below_trans' hB2 hB2.size hb3
  obtain ⟨u0, u1, u2, u3, u4⟩ := cells5 (set5 G (.int .i64 0) (.string ⟨#[]⟩) (.string ⟨#[]⟩) (.string ⟨#[]⟩) (.string ⟨#[]⟩))
  have hbe := below_sets5 hB3 (show w.heap.size ≤ w.heap.size + 1 + 1 by omega) (.int .i64 0) (.string ⟨#[]⟩) (.string ⟨#[]⟩) (.string ⟨#[]⟩) (.string ⟨#[]⟩)
  clear k0 k1 l0 l1 m0 m1 n0 n1 fz kz hB1 hB2 hB3 hb3 q1 q2 F0 F1 F2 F2' g0 g1 g2 g3 G
  generalize (((((w3.setCell ⟨w.heap.size + 1 + 1, 0, none⟩ (.int .i64 0)).setCell ⟨w.heap.size + 1 + 1, 1, none⟩ (.string ⟨#[]⟩)).setCell ⟨w.heap.size + 1 + 1, 2, none⟩ (.string ⟨#[]⟩)).setCell ⟨w.heap.size + 1 + 1, 3, none⟩ (.string ⟨#[]⟩)).setCell ⟨w.heap.size + 1 + 1, 4, none⟩ (.string ⟨#[]⟩)) = wz at *
  go_wp2_with fail
  exact bodyPost_ret (v := .tuple #[.agg #[.int .i64 0, .string ⟨#[]⟩, .string ⟨#[]⟩, .string ⟨#[]⟩, .string ⟨#[]⟩], .bool false]) (by simp [results, Tryz.results10, go_sem, u0, u1, u2, u3, u4]) rfl ⟨rfl, hbe⟩

set_option maxRecDepth 100000 in
set_option maxHeartbeats 8000000 in
theorem diff11_0 (n m : Int) (X1 Y1 V1 W1 X2 Y2 V2 W2 A B C D : ByteArray) (w : World)
    (h1 : ∀ w, Calls Tryz.prog 35 #[.agg #[.string X2, .string Y2], .agg #[.string X1, .string Y1]] w fun e w' => e = .returned (.tuple #[.agg #[.string A, .string B], .bool true]) ∧ Below w.heap.size w w')
    (h2 : ∀ w, Calls Tryz.prog 36 #[.agg #[.string V1, .string W1], .agg #[.string V2, .string W2]] w fun e w' => e = .returned (.tuple #[.agg #[.string C, .string D], .bool true]) ∧ Below w.heap.size w w') :
    Calls Tryz.prog 11 #[estV n X1 Y1 V1 W1, estV m X2 Y2 V2 W2] w fun e w' => e = .returned (.tuple #[.agg #[.int .i64 (wrap64 (n + m)), .string A, .string B, .string C, .string D], .bool true]) ∧ Below w.heap.size w w' := by
  obtain ⟨hbW, g0, g1, g2⟩ := allocs3 w #[.int .i64 n, .string X1, .string Y1, .string V1, .string W1] #[.int .i64 m, .string X2, .string Y2, .string V2, .string W2] #[.int .i64 0, .string ⟨#[]⟩, .string ⟨#[]⟩, .string ⟨#[]⟩, .string ⟨#[]⟩] 28 28 28
  have k0 := cells5 g0
  have k1 := cells5 g1
  have H1 := Lib.hid h1
  have H2 := Lib.hid h2
  have ne0 : ¬ w.heap.size = w.heap.size + 1 + 1 := by omega
  have ne1 : ¬ w.heap.size + 1 = w.heap.size + 1 + 1 := by omega
  clear h1 h2
  go_enter Tryz.func11, Tryz.ntmps11
  go_wp2_with fail
  generalize ((w.alloc (.cells #[.int .i64 n, .string X1, .string Y1, .string V1, .string W1] 28)).alloc (.cells #[.int .i64 m, .string X2, .string Y2, .string V2, .string W2] 28)).alloc (.cells #[.int .i64 0, .string ⟨#[]⟩, .string ⟨#[]⟩, .string ⟨#[]⟩, .string ⟨#[]⟩] 28) = W at *
  refine (H1.out W).mono ?_
  rintro e w1 ⟨rfl, hb1⟩
  have hst := below_trans' hb1 hb1.size ((Below.refl w1.heap.size w1).alloc (Nat.le_refl _) (.cells #[.string A, .string B] 26))
  have t1 := heap_alloc_new w1 (.cells #[.string A, .string B] 26)
  replace hbW := below_trans' hbW hbW.size hst
  replace g0 := blk_below hst g0
  replace g1 := blk_below hst g1
  replace g2 := blk_below hst g2
  replace k0 := cells5 g0
  replace k1 := cells5 g1
  clear hst hb1
  go_wp2_with fail
  generalize w1.alloc (.cells #[.string A, .string B] 26) = V1' at *
  generalize w1.heap.size = N1 at *
  refine (H2.out V1').mono ?_
  rintro e w2 ⟨rfl, hb2⟩
  have hst := below_trans' hb2 hb2.size ((Below.refl w2.heap.size w2).alloc (Nat.le_refl _) (.cells #[.string C, .string D] 26))
  have t2 := cells2 (heap_alloc_new w2 (.cells #[.string C, .string D] 26))
  replace t1 := cells2 (blk_below hst t1)
  replace hbW := below_trans' hbW hbW.size hst
  replace g0 := blk_below hst g0
  replace g1 := blk_below hst g1
  replace g2 := blk_below hst g2
  replace k0 := cells5 g0
  replace k1 := cells5 g1
  have fz := free_of_block g2
  have kz := cells5 g2
  obtain ⟨u0, u1, u2, u3, u4⟩ := cells5 (set5 g2 (.int .i64 (wrap64 (n + m))) (.string A) (.string B) (.string C) (.string D))
  have hbe := below_sets5 hbW (show w.heap.size ≤ w.heap.size + 1 + 1 by omega) (.int .i64 (wrap64 (n + m))) (.string A) (.string B) (.string C) (.string D)
  clear hst hb2 g0 g1 g2 hbW
  go_wp2_with fail
  exact bodyPost_ret (v := .tuple #[.agg #[.int .i64 (wrap64 (n + m)), .string A, .string B, .string C, .string D], .bool true]) (by simp [results, Tryz.results11, go_sem, u0, u1, u2, u3, u4]) rfl ⟨rfl, hbe⟩

set_option maxRecDepth 100000 in
set_option maxHeartbeats 8000000 in
theorem diff11_1 (n m : Int) (X1 Y1 V1 W1 X2 Y2 V2 W2 A B C D : ByteArray) (w : World)
    (h1 : ∀ w, Calls Tryz.prog 35 #[.agg #[.string X2, .string Y2], .agg #[.string X1, .string Y1]] w fun e w' => e = .returned (.tuple #[.agg #[.string A, .string B], .bool true]) ∧ Below w.heap.size w w')
    (h2 : ∀ w, Calls Tryz.prog 36 #[.agg #[.string V1, .string W1], .agg #[.string V2, .string W2]] w fun e w' => e = .returned (.tuple #[.agg #[.string C, .string D], .bool false]) ∧ Below w.heap.size w w') :
    Calls Tryz.prog 11 #[estV n X1 Y1 V1 W1, estV m X2 Y2 V2 W2] w fun e w' => e = .returned (.tuple #[.agg #[.int .i64 0, .string ⟨#[]⟩, .string ⟨#[]⟩, .string ⟨#[]⟩, .string ⟨#[]⟩], .bool false]) ∧ Below w.heap.size w w' := by
  obtain ⟨hbW, g0, g1, g2⟩ := allocs3 w #[.int .i64 n, .string X1, .string Y1, .string V1, .string W1] #[.int .i64 m, .string X2, .string Y2, .string V2, .string W2] #[.int .i64 0, .string ⟨#[]⟩, .string ⟨#[]⟩, .string ⟨#[]⟩, .string ⟨#[]⟩] 28 28 28
  have k0 := cells5 g0
  have k1 := cells5 g1
  have H1 := Lib.hid h1
  have H2 := Lib.hid h2
  have ne0 : ¬ w.heap.size = w.heap.size + 1 + 1 := by omega
  have ne1 : ¬ w.heap.size + 1 = w.heap.size + 1 + 1 := by omega
  clear h1 h2
  go_enter Tryz.func11, Tryz.ntmps11
  go_wp2_with fail
  generalize ((w.alloc (.cells #[.int .i64 n, .string X1, .string Y1, .string V1, .string W1] 28)).alloc (.cells #[.int .i64 m, .string X2, .string Y2, .string V2, .string W2] 28)).alloc (.cells #[.int .i64 0, .string ⟨#[]⟩, .string ⟨#[]⟩, .string ⟨#[]⟩, .string ⟨#[]⟩] 28) = W at *
  refine (H1.out W).mono ?_
  rintro e w1 ⟨rfl, hb1⟩
  have hst := below_trans' hb1 hb1.size ((Below.refl w1.heap.size w1).alloc (Nat.le_refl _) (.cells #[.string A, .string B] 26))
  have t1 := heap_alloc_new w1 (.cells #[.string A, .string B] 26)
  replace hbW := below_trans' hbW hbW.size hst
  replace g0 := blk_below hst g0
  replace g1 := blk_below hst g1
  replace g2 := blk_below hst g2
  replace k0 := cells5 g0
  replace k1 := cells5 g1
  clear hst hb1
  go_wp2_with fail
  generalize w1.alloc (.cells #[.string A, .string B] 26) = V1' at *
  generalize w1.heap.size = N1 at *
  refine (H2.out V1').mono ?_
  rintro e w2 ⟨rfl, hb2⟩
  have hst := below_trans' hb2 hb2.size ((Below.refl w2.heap.size w2).alloc (Nat.le_refl _) (.cells #[.string C, .string D] 26))
  have t2 := cells2 (heap_alloc_new w2 (.cells #[.string C, .string D] 26))
  replace t1 := cells2 (blk_below hst t1)
  replace hbW := below_trans' hbW hbW.size hst
  replace g0 := blk_below hst g0
  replace g1 := blk_below hst g1
  replace g2 := blk_below hst g2
  replace k0 := cells5 g0
  replace k1 := cells5 g1
  have fz := free_of_block g2
  have kz := cells5 g2
  obtain ⟨u0, u1, u2, u3, u4⟩ := cells5 (set5 g2 (.int .i64 0) (.string ⟨#[]⟩) (.string ⟨#[]⟩) (.string ⟨#[]⟩) (.string ⟨#[]⟩))
  have hbe := below_sets5 hbW (show w.heap.size ≤ w.heap.size + 1 + 1 by omega) (.int .i64 0) (.string ⟨#[]⟩) (.string ⟨#[]⟩) (.string ⟨#[]⟩) (.string ⟨#[]⟩)
  clear hst hb2 g0 g1 g2 hbW
  go_wp2_with fail
  exact bodyPost_ret (v := .tuple #[.agg #[.int .i64 0, .string ⟨#[]⟩, .string ⟨#[]⟩, .string ⟨#[]⟩, .string ⟨#[]⟩], .bool false]) (by simp [results, Tryz.results11, go_sem, u0, u1, u2, u3, u4]) rfl ⟨rfl, hbe⟩

set_option maxRecDepth 100000 in
set_option maxHeartbeats 8000000 in
theorem diff11_2 (n m : Int) (X1 Y1 V1 W1 X2 Y2 V2 W2 A B C D : ByteArray) (w : World)
    (h1 : ∀ w, Calls Tryz.prog 35 #[.agg #[.string X2, .string Y2], .agg #[.string X1, .string Y1]] w fun e w' => e = .returned (.tuple #[.agg #[.string A, .string B], .bool false]) ∧ Below w.heap.size w w')
    (h2 : ∀ w, Calls Tryz.prog 36 #[.agg #[.string V1, .string W1], .agg #[.string V2, .string W2]] w fun e w' => e = .returned (.tuple #[.agg #[.string C, .string D], .bool true]) ∧ Below w.heap.size w w') :
    Calls Tryz.prog 11 #[estV n X1 Y1 V1 W1, estV m X2 Y2 V2 W2] w fun e w' => e = .returned (.tuple #[.agg #[.int .i64 0, .string ⟨#[]⟩, .string ⟨#[]⟩, .string ⟨#[]⟩, .string ⟨#[]⟩], .bool false]) ∧ Below w.heap.size w w' := by
  obtain ⟨hbW, g0, g1, g2⟩ := allocs3 w #[.int .i64 n, .string X1, .string Y1, .string V1, .string W1] #[.int .i64 m, .string X2, .string Y2, .string V2, .string W2] #[.int .i64 0, .string ⟨#[]⟩, .string ⟨#[]⟩, .string ⟨#[]⟩, .string ⟨#[]⟩] 28 28 28
  have k0 := cells5 g0
  have k1 := cells5 g1
  have H1 := Lib.hid h1
  have H2 := Lib.hid h2
  have ne0 : ¬ w.heap.size = w.heap.size + 1 + 1 := by omega
  have ne1 : ¬ w.heap.size + 1 = w.heap.size + 1 + 1 := by omega
  clear h1 h2
  go_enter Tryz.func11, Tryz.ntmps11
  go_wp2_with fail
  generalize ((w.alloc (.cells #[.int .i64 n, .string X1, .string Y1, .string V1, .string W1] 28)).alloc (.cells #[.int .i64 m, .string X2, .string Y2, .string V2, .string W2] 28)).alloc (.cells #[.int .i64 0, .string ⟨#[]⟩, .string ⟨#[]⟩, .string ⟨#[]⟩, .string ⟨#[]⟩] 28) = W at *
  refine (H1.out W).mono ?_
  rintro e w1 ⟨rfl, hb1⟩
  have hst := below_trans' hb1 hb1.size ((Below.refl w1.heap.size w1).alloc (Nat.le_refl _) (.cells #[.string A, .string B] 26))
  have t1 := heap_alloc_new w1 (.cells #[.string A, .string B] 26)
  replace hbW := below_trans' hbW hbW.size hst
  replace g0 := blk_below hst g0
  replace g1 := blk_below hst g1
  replace g2 := blk_below hst g2
  replace k0 := cells5 g0
  replace k1 := cells5 g1
  clear hst hb1
  go_wp2_with fail
  generalize w1.alloc (.cells #[.string A, .string B] 26) = V1' at *
  generalize w1.heap.size = N1 at *
  refine (H2.out V1').mono ?_
  rintro e w2 ⟨rfl, hb2⟩
  have hst := below_trans' hb2 hb2.size ((Below.refl w2.heap.size w2).alloc (Nat.le_refl _) (.cells #[.string C, .string D] 26))
  have t2 := cells2 (heap_alloc_new w2 (.cells #[.string C, .string D] 26))
  replace t1 := cells2 (blk_below hst t1)
  replace hbW := below_trans' hbW hbW.size hst
  replace g0 := blk_below hst g0
  replace g1 := blk_below hst g1
  replace g2 := blk_below hst g2
  replace k0 := cells5 g0
  replace k1 := cells5 g1
  have fz := free_of_block g2
  have kz := cells5 g2
  obtain ⟨u0, u1, u2, u3, u4⟩ := cells5 (set5 g2 (.int .i64 0) (.string ⟨#[]⟩) (.string ⟨#[]⟩) (.string ⟨#[]⟩) (.string ⟨#[]⟩))
  have hbe := below_sets5 hbW (show w.heap.size ≤ w.heap.size + 1 + 1 by omega) (.int .i64 0) (.string ⟨#[]⟩) (.string ⟨#[]⟩) (.string ⟨#[]⟩) (.string ⟨#[]⟩)
  clear hst hb2 g0 g1 g2 hbW
  go_wp2_with fail
  exact bodyPost_ret (v := .tuple #[.agg #[.int .i64 0, .string ⟨#[]⟩, .string ⟨#[]⟩, .string ⟨#[]⟩, .string ⟨#[]⟩], .bool false]) (by simp [results, Tryz.results11, go_sem, u0, u1, u2, u3, u4]) rfl ⟨rfl, hbe⟩

set_option maxRecDepth 100000 in
set_option maxHeartbeats 8000000 in
theorem diff11_3 (n m : Int) (X1 Y1 V1 W1 X2 Y2 V2 W2 A B C D : ByteArray) (w : World)
    (h1 : ∀ w, Calls Tryz.prog 35 #[.agg #[.string X2, .string Y2], .agg #[.string X1, .string Y1]] w fun e w' => e = .returned (.tuple #[.agg #[.string A, .string B], .bool false]) ∧ Below w.heap.size w w')
    (h2 : ∀ w, Calls Tryz.prog 36 #[.agg #[.string V1, .string W1], .agg #[.string V2, .string W2]] w fun e w' => e = .returned (.tuple #[.agg #[.string C, .string D], .bool false]) ∧ Below w.heap.size w w') :
    Calls Tryz.prog 11 #[estV n X1 Y1 V1 W1, estV m X2 Y2 V2 W2] w fun e w' => e = .returned (.tuple #[.agg #[.int .i64 0, .string ⟨#[]⟩, .string ⟨#[]⟩, .string ⟨#[]⟩, .string ⟨#[]⟩], .bool false]) ∧ Below w.heap.size w w' := by
  obtain ⟨hbW, g0, g1, g2⟩ := allocs3 w #[.int .i64 n, .string X1, .string Y1, .string V1, .string W1] #[.int .i64 m, .string X2, .string Y2, .string V2, .string W2] #[.int .i64 0, .string ⟨#[]⟩, .string ⟨#[]⟩, .string ⟨#[]⟩, .string ⟨#[]⟩] 28 28 28
  have k0 := cells5 g0
  have k1 := cells5 g1
  have H1 := Lib.hid h1
  have H2 := Lib.hid h2
  have ne0 : ¬ w.heap.size = w.heap.size + 1 + 1 := by omega
  have ne1 : ¬ w.heap.size + 1 = w.heap.size + 1 + 1 := by omega
  clear h1 h2
  go_enter Tryz.func11, Tryz.ntmps11
  go_wp2_with fail
  generalize ((w.alloc (.cells #[.int .i64 n, .string X1, .string Y1, .string V1, .string W1] 28)).alloc (.cells #[.int .i64 m, .string X2, .string Y2, .string V2, .string W2] 28)).alloc (.cells #[.int .i64 0, .string ⟨#[]⟩, .string ⟨#[]⟩, .string ⟨#[]⟩, .string ⟨#[]⟩] 28) = W at *
  refine (H1.out W).mono ?_
  rintro e w1 ⟨rfl, hb1⟩
  have hst := below_trans' hb1 hb1.size ((Below.refl w1.heap.size w1).alloc (Nat.le_refl _) (.cells #[.string A, .string B] 26))
  have t1 := heap_alloc_new w1 (.cells #[.string A, .string B] 26)
  replace hbW := below_trans' hbW hbW.size hst
  replace g0 := blk_below hst g0
  replace g1 := blk_below hst g1
  replace g2 := blk_below hst g2
  replace k0 := cells5 g0
  replace k1 := cells5 g1
  clear hst hb1
  go_wp2_with fail
  generalize w1.alloc (.cells #[.string A, .string B] 26) = V1' at *
  generalize w1.heap.size = N1 at *
  refine (H2.out V1').mono ?_
  rintro e w2 ⟨rfl, hb2⟩
  have hst := below_trans' hb2 hb2.size ((Below.refl w2.heap.size w2).alloc (Nat.le_refl _) (.cells #[.string C, .string D] 26))
  have t2 := cells2 (heap_alloc_new w2 (.cells #[.string C, .string D] 26))
  replace t1 := cells2 (blk_below hst t1)
  replace hbW := below_trans' hbW hbW.size hst
  replace g0 := blk_below hst g0
  replace g1 := blk_below hst g1
  replace g2 := blk_below hst g2
  replace k0 := cells5 g0
  replace k1 := cells5 g1
  have fz := free_of_block g2
  have kz := cells5 g2
  obtain ⟨u0, u1, u2, u3, u4⟩ := cells5 (set5 g2 (.int .i64 0) (.string ⟨#[]⟩) (.string ⟨#[]⟩) (.string ⟨#[]⟩) (.string ⟨#[]⟩))
  have hbe := below_sets5 hbW (show w.heap.size ≤ w.heap.size + 1 + 1 by omega) (.int .i64 0) (.string ⟨#[]⟩) (.string ⟨#[]⟩) (.string ⟨#[]⟩) (.string ⟨#[]⟩)
  clear hst hb2 g0 g1 g2 hbW
  go_wp2_with fail
  exact bodyPost_ret (v := .tuple #[.agg #[.int .i64 0, .string ⟨#[]⟩, .string ⟨#[]⟩, .string ⟨#[]⟩, .string ⟨#[]⟩], .bool false]) (by simp [results, Tryz.results11, go_sem, u0, u1, u2, u3, u4]) rfl ⟨rfl, hbe⟩

theorem op2_any (F : Rat → Rat → Option Rat) (a b : Txt) : ∃ A B ok, txV (op2 F a b) = .tuple #[.agg #[.string A, .string B], .bool ok] ∧ A.size ≤ maxLen ∧ B.size ≤ maxLen := by
  cases h : op2 F a b with
  | none => exact ⟨_, _, _, rfl, by decide, by decide⟩
  | some t =>
    obtain ⟨t1, t2⟩ := t
    unfold op2 at h
    split at h
    · obtain ⟨z, -, hz⟩ := Option.bind_eq_some_iff.1 h
      have hT : Tx ⟨t1.toArray⟩ ⟨t2.toArray⟩ z := ⟨(wrR_some.1 hz).1, (wrR_some.1 hz).2⟩
      exact ⟨_, _, _, rfl, hT.lens⟩
    · cases h
theorem nil_len : (⟨#[]⟩ : ByteArray).size ≤ maxLen := by decide
/-- Difference of the program and of the reference hand back the same. -/
theorem diff_two (n m : Int) (X1 Y1 V1 W1 X2 Y2 V2 W2 : ByteArray)
    (z1 : X1.size ≤ maxLen ∧ Y1.size ≤ maxLen ∧ V1.size ≤ maxLen ∧ W1.size ≤ maxLen) (z2 : X2.size ≤ maxLen ∧ Y2.size ≤ maxLen ∧ V2.size ≤ maxLen ∧ W2.size ≤ maxLen) :
    ∃ N A B C D ok, (A.size ≤ maxLen ∧ B.size ≤ maxLen ∧ C.size ≤ maxLen ∧ D.size ≤ maxLen) ∧ ∀ w, Two 10 11 #[estV n X1 Y1 V1 W1, estV m X2 Y2 V2 W2] (estT N A B C D ok) w := by
  have a1 := fun w => sub29 X2 Y2 X1 Y1 w z2.1 z2.2.1 z1.1 z1.2.1
  have a2 := fun w => add27 V1 W1 V2 W2 w z1.2.2.1 z1.2.2.2 z2.2.2.1 z2.2.2.2
  have b1 := fun w => sub32 X2 Y2 X1 Y1 w z2.1 z2.2.1 z1.1 z1.2.1
  have b2 := fun w => add28 V1 W1 V2 W2 w z1.2.2.1 z1.2.2.2 z2.2.2.1 z2.2.2.2
  obtain ⟨A, B, ok1, e1, s1, s2⟩ := op2_any (fun x y => some (x - y)) (X2.data.toList, Y2.data.toList) (X1.data.toList, Y1.data.toList)
  change txV (subT _ _) = _ at e1
  obtain ⟨C, D, ok2, e2, s3, s4⟩ := op2_any (fun x y => some (x + y)) (V1.data.toList, W1.data.toList) (V2.data.toList, W2.data.toList)
  change txV (addT _ _) = _ at e2
  rw [e1] at a1 b1
  rw [e2] at a2 b2
  cases ok1 <;> cases ok2
  · exact ⟨_, _, _, _, _, _, ⟨nil_len, nil_len, nil_len, nil_len⟩, fun w => ⟨diff10_3 n m X1 Y1 V1 W1 X2 Y2 V2 W2 A B C D w a1 a2, diff11_3 n m X1 Y1 V1 W1 X2 Y2 V2 W2 A B C D w b1 b2⟩⟩
  · exact ⟨_, _, _, _, _, _, ⟨nil_len, nil_len, nil_len, nil_len⟩, fun w => ⟨diff10_2 n m X1 Y1 V1 W1 X2 Y2 V2 W2 A B C D w a1 a2, diff11_2 n m X1 Y1 V1 W1 X2 Y2 V2 W2 A B C D w b1 b2⟩⟩
  · exact ⟨_, _, _, _, _, _, ⟨nil_len, nil_len, nil_len, nil_len⟩, fun w => ⟨diff10_1 n m X1 Y1 V1 W1 X2 Y2 V2 W2 A B C D w a1 a2, diff11_1 n m X1 Y1 V1 W1 X2 Y2 V2 W2 A B C D w b1 b2⟩⟩
  · exact ⟨_, _, _, _, _, _, ⟨s1, s2, s3, s4⟩, fun w => ⟨diff10_0 n m X1 Y1 V1 W1 X2 Y2 V2 W2 A B C D w a1 a2, by rw [show IntKind.i64.wrap (n + m) = wrap64 (n + m) from by rw [IntKind.wrap_i64]; unfold wrap64; rfl]; exact diff11_0 n m X1 Y1 V1 W1 X2 Y2 V2 W2 A B C D w b1 b2⟩⟩
end Go.Proofs.YtpligjkbnlfhgaaGreatDoor
