/- wealth.Factor and the reference's; Threshold and First; the sanity check of flagstonelaw40. -/
import Derived.Test.YtgonighpjpfmnaaGrow
import Derived.Test.YtgonighpjpfmnaaArgs
import Derived.Test.YtgonighpjpfmnaaScoreOf
namespace Go.Proofs.Ytgonighpjpfmnaa
open Go.RowKit

set_option maxHeartbeats 1000000 in
theorem fac47 (n u r e b : Int) (up : Bool) (w : World) (hu : -9223372036854775808 ≤ u) (hr : r ≤ 9223372036854775807) :
    Calls Try.prog 47 #[.agg #[.int .i64 n, .int .i64 u, .int .i64 r], .int .i64 e, .int .i64 b, .bool up] w fun en w' => en = .returned (.tuple #[.int .i64 (facN n u r e b up), .int .i64 (facD n u r e b)]) ∧ Below w.heap.size w w' := by
  cases hf : facOk n u r e b with
  | true =>
    obtain ⟨⟨h1, h2, h3, h4, h5⟩, h6, h7, h8, h9⟩ := facOk_iff.1 hf
    have hv : vldS n u r = true := by simp [vldS]; omega
    have hp := prod_bd (u := u) (e := e) h1 h6 h7
    have hg := gain_bd hf
    unfold gainI at hg
    have eN : facN n u r e b up = if up = true then 8 * r * 1000 + gainI n u e b else 8 * r * 1000 - gainI n u e b := by rw [facN, if_pos hf]
    have eD : facD n u r e b = 8 * r * 1000 := by rw [facD, if_pos hf]
    unfold gainI at eN
    rw [eN, eD]
    clear eN eD hf
    have g1 : IntKind.i64.wrap (u * e) = u * e := IntWalk.i64_in _ (by omega)
    have g2 : IntKind.i64.wrap (b * (n * 1000 - u * e)) = b * (n * 1000 - u * e) := IntWalk.i64_in _ (by omega)
    have d1 : decide (e < -1000) = false := by simp; omega
    have d2 : decide (1000 < e) = false := by simp; omega
    have d3 : decide (b < 0) = false := by simp; omega
    have d4 : decide (4 < b) = false := by simp; omega
    go_enter Try.func47, Try.ntmps47
    go_wp2_with fail
    refine (valid36 n u r _ (by omega) (by omega)).mono ?_
    rintro en w1 ⟨rfl, hb1⟩
    rw [hv]
    have hb0 : Below w.heap.size w (w.alloc (.cells #[.int .i64 n, .int .i64 u, .int .i64 r] 37)) := (Below.refl _ _).alloc (Nat.le_refl _) _
    have gw := heap_alloc_new w (.cells #[.int .i64 n, .int .i64 u, .int .i64 r] 37)
    rw [← hb1.block _ (lt_of_blk gw)] at gw
    have hz := lt_of_blk gw
    have y0 := cell_of_block gw 0
    have y1 := cell_of_block gw 1
    have y2 := cell_of_block gw 2
    simp only [List.getElem?_toArray, List.getElem?_cons_zero, List.getElem?_cons_succ] at y0 y1 y2
    have hb := below_trans hb0 hb1
    clear hb0 hb1 gw
    cases up with
    | true =>
      go_wp2_with fail
      go_ret2
      exact ⟨rfl, hb⟩
    | false =>
      go_wp2_with fail
      go_ret2
      exact ⟨rfl, hb⟩
  | false =>
    have eN : facN n u r e b up = 1 := by rw [facN, if_neg (by rw [hf]; decide)]
    have eD : facD n u r e b = 1 := by rw [facD, if_neg (by rw [hf]; decide)]
    rw [eN, eD]
    clear eN eD
    go_enter Try.func47, Try.ntmps47
    go_wp2_with fail
    refine (valid36 n u r _ hu hr).mono ?_
    rintro en w1 ⟨rfl, hb1⟩
    have hb0 : Below w.heap.size w (w.alloc (.cells #[.int .i64 n, .int .i64 u, .int .i64 r] 37)) := (Below.refl _ _).alloc (Nat.le_refl _) _
    have hb := below_trans hb0 hb1
    clear hb0 hb1
    cases hv : vldS n u r with
    | false =>
      go_wp2_with fail
      go_ret2
      exact ⟨rfl, hb⟩
    | true =>
      have hn : e < -1000 ∨ 1000 < e ∨ b < 0 ∨ 4 < b := by
        rw [facOk, hv] at hf
        simp at hf
        omega
      clear hf
      go_wp2_with fail
      all_goals (go_ret2; exact ⟨rfl, hb⟩)
set_option maxHeartbeats 1000000 in
theorem fac48 (n u r e b : Int) (up : Bool) (w : World) (hu : -9223372036854775808 ≤ u) (hr : r ≤ 9223372036854775807) :
    Calls Try.prog 48 #[.agg #[.int .i64 n, .int .i64 u, .int .i64 r], .int .i64 e, .int .i64 b, .bool up] w fun en w' => en = .returned (.tuple #[.int .i64 (facN n u r e b up), .int .i64 (facD n u r e b)]) ∧ Below w.heap.size w w' := by
  cases hf : facOk n u r e b with
  | true =>
    obtain ⟨⟨h1, h2, h3, h4, h5⟩, h6, h7, h8, h9⟩ := facOk_iff.1 hf
    have hv : vldS n u r = true := by simp [vldS]; omega
    have hp := prod_bd (u := u) (e := e) h1 h6 h7
    have hg := gain_bd hf
    unfold gainI at hg
    have eN : facN n u r e b up = if up = true then 8 * r * 1000 + gainI n u e b else 8 * r * 1000 - gainI n u e b := by rw [facN, if_pos hf]
    have eD : facD n u r e b = 8 * r * 1000 := by rw [facD, if_pos hf]
    unfold gainI at eN
    rw [eN, eD]
    clear eN eD hf
    have g1 : IntKind.i64.wrap (u * e) = u * e := IntWalk.i64_in _ (by omega)
    have g2 : IntKind.i64.wrap (b * (n * 1000 - u * e)) = b * (n * 1000 - u * e) := IntWalk.i64_in _ (by omega)
    have d1 : decide (e < -1000) = false := by simp; omega
    have d2 : decide (1000 < e) = false := by simp; omega
    have d3 : decide (b < 0) = false := by simp; omega
    have d4 : decide (4 < b) = false := by simp; omega
    go_enter Try.func48, Try.ntmps48
    go_wp2_with fail
    refine (valid37 n u r _ (by omega) (by omega)).mono ?_
    rintro en w1 ⟨rfl, hb1⟩
    rw [hv]
    have hb0 : Below w.heap.size w (w.alloc (.cells #[.int .i64 n, .int .i64 u, .int .i64 r] 37)) := (Below.refl _ _).alloc (Nat.le_refl _) _
    have gw := heap_alloc_new w (.cells #[.int .i64 n, .int .i64 u, .int .i64 r] 37)
    rw [← hb1.block _ (lt_of_blk gw)] at gw
    have hz := lt_of_blk gw
    have y0 := cell_of_block gw 0
    have y1 := cell_of_block gw 1
    have y2 := cell_of_block gw 2
    simp only [List.getElem?_toArray, List.getElem?_cons_zero, List.getElem?_cons_succ] at y0 y1 y2
    have hb := below_trans hb0 hb1
    clear hb0 hb1 gw
    cases up with
    | true =>
      go_wp2_with fail
      go_ret2
      exact ⟨rfl, hb⟩
    | false =>
      go_wp2_with fail
      go_ret2
      exact ⟨rfl, hb⟩
  | false =>
    have eN : facN n u r e b up = 1 := by rw [facN, if_neg (by rw [hf]; decide)]
    have eD : facD n u r e b = 1 := by rw [facD, if_neg (by rw [hf]; decide)]
    rw [eN, eD]
    clear eN eD
    go_enter Try.func48, Try.ntmps48
    go_wp2_with fail
    refine (valid37 n u r _ hu hr).mono ?_
    rintro en w1 ⟨rfl, hb1⟩
    have hb0 : Below w.heap.size w (w.alloc (.cells #[.int .i64 n, .int .i64 u, .int .i64 r] 37)) := (Below.refl _ _).alloc (Nat.le_refl _) _
    have hb := below_trans hb0 hb1
    clear hb0 hb1
    cases hv : vldS n u r with
    | false =>
      go_wp2_with fail
      go_ret2
      exact ⟨rfl, hb⟩
    | true =>
      have hn : e < -1000 ∨ 1000 < e ∨ b < 0 ∨ 4 < b := by
        rw [facOk, hv] at hf
        simp at hf
        omega
      clear hf
      go_wp2_with fail
      all_goals (go_ret2; exact ⟨rfl, hb⟩)
end Go.Proofs.Ytgonighpjpfmnaa
