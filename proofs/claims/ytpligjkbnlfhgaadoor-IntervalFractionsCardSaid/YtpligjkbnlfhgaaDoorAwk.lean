/- The sanity check of chapter 37. No statement is proved here. -/
import Derived.Test.YtpligjkbnlfhgaaDoorMul
namespace Go.Proofs.YtpligjkbnlfhgaaDoor
open Go.RowKit

theorem awake_sqrt : sqrtI 8589934592 8589934592 = some (6074000999, 6074001000) := by decide +kernel
theorem awake_mul : mulI (-4294967296) 8589934592 12884901888 17179869184 = some (-17179869184, 34359738368) := by decide +kernel

set_option maxRecDepth 100000 in
set_option maxHeartbeats 4000000 in
theorem awake47 (w : World) : Calls Tryd.prog 47 #[] w fun e w' => e = .returned (.bool true) ∧ Below w.heap.size w w' := by
  have hs := fun w => sqrt12 8589934592 8589934592 w
  rw [awake_sqrt] at hs
  have hm := fun w => mul56 (-4294967296) 8589934592 12884901888 17179869184 w
  rw [awake_mul] at hm
  have HS : Hid (∀ w, Calls Tryd.prog 58 #[.agg #[.int .i64 8589934592, .int .i64 8589934592]] w fun e w' => e = .returned (.tuple #[.agg #[.int .i64 6074000999, .int .i64 6074001000], .bool true]) ∧ Below w.heap.size w w') := Lib.hid hs
  have HM : Hid (∀ w, Calls Tryd.prog 56 #[.agg #[.int .i64 (-4294967296), .int .i64 8589934592], .agg #[.int .i64 12884901888, .int .i64 17179869184]] w fun e w' => e = .returned (.tuple #[.agg #[.int .i64 (-17179869184), .int .i64 34359738368], .bool true]) ∧ Below w.heap.size w w') := Lib.hid hm
  clear hs hm
  go_enter Tryd.func47, Tryd.ntmps47
  go_wp2_with fail
  refine (HS.out _).mono ?_
  rintro e w1 ⟨rfl, hb1⟩
  have hst := below_trans' hb1 hb1.size ((Below.refl w1.heap.size w1).alloc (Nat.le_refl _) (.cells #[.int .i64 6074000999, .int .i64 6074001000] 69))
  have G1 := heap_alloc_new w1 (.cells #[.int .i64 6074000999, .int .i64 6074001000] 69)
  go_wp2_with fail
  refine (HM.out _).mono ?_
  rintro e w2 ⟨rfl, hb2⟩
  have hst2 := below_trans' hb2 hb2.size ((Below.refl w2.heap.size w2).alloc (Nat.le_refl _) (.cells #[.int .i64 (-17179869184), .int .i64 34359738368] 69))
  have G2 := heap_alloc_new w2 (.cells #[.int .i64 (-17179869184), .int .i64 34359738368] 69)
  have k1 := cells2i (blk_below hst2 G1)
  have k2 := cells2i G2
  have hB := below_trans' hst hst.size hst2
  clear hb1 hb2 hst hst2 G1 G2
  go_wp2_with fail
  go_ret
  exact ⟨rfl, hB⟩
end Go.Proofs.YtpligjkbnlfhgaaDoor
