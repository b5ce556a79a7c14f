/- Made intervals; one inside the other. -/
import Derived.Test.YtpligjkbnlfhgaaIntA
namespace Go.Proofs.Ytpligjkbnlfhgaa
open Go.RowKit

theorem inside9 (a b c d : Int) (w : World) : Calls Try.prog 9 #[.agg #[.int .i64 a, .int .i64 b], .agg #[.int .i64 c, .int .i64 d]] w fun e w' => e = .returned (.bool (decide (c ≤ a) && decide (b ≤ d))) ∧ Below w.heap.size w w' := by
  obtain ⟨hb, _, _⟩ := allocs2 w (ivA a b) (ivA c d) 23 23
  unfold ivA at *
  by_cases h1 : c ≤ a
  all_goals
    go_enter Try.func9, Try.ntmps9
    go_wp2_with fail
    go_ret
    exact ⟨ret_bool (by simp [h1]; try (intros; omega)), hb⟩

set_option maxHeartbeats 1000000 in
theorem made6 (a b s : Int) (w : World) (hs : 0 ≤ s ∧ s ≤ 255) : Calls Try.prog 6 #[.int .i64 a, .int .i64 b, .int .u8 s] w fun e w' => ∃ lo hi, e = .returned (.agg #[.int .i64 lo, .int .i64 hi]) ∧ inI lo hi = true ∧ Below w.heap.size w w' := by
  have g0 := heap_alloc_new w (.cells #[.int .i64 0, .int .i64 0] 23)
  have hb0 : Below w.heap.size w (w.alloc (.cells #[.int .i64 0, .int .i64 0] 23)) := (Below.refl _ _).alloc (Nat.le_refl _) _
  have hw : w.heap.size ≤ w.heap.size := Nat.le_refl _
  by_cases h2 : 200 ≤ s
  · go_enter Try.func6, Try.ntmps6
    go_wp2_with fail
    generalize a / 2 ^ (3 + s % 50).toNat = A at *
    generalize b / 2 ^ (3 + s % 50).toNat = B at *
    obtain ⟨P, hP⟩ : ∃ P, max (-2305843009213693952) (min A 2305843009213693952) = P := ⟨_, rfl⟩
    rw [hP]
    obtain ⟨Q, hQ⟩ : ∃ Q, min 2305843009213693952 (P + s - 200) = Q := ⟨_, rfl⟩
    rw [hQ]
    try rw [show max (-2305843009213693952) (max (min A 2305843009213693952) Q) = max P Q by omega]
    have k := heap_alloc_new w (.cells #[.int .i64 (min P Q), .int .i64 (max P Q)] 23)
    have t0 := cell_of_block k 0
    have t1 := cell_of_block k 1
    simp only [List.getElem?_toArray, List.getElem?_cons_zero, List.getElem?_cons_succ] at t0 t1
    exact bodyPost_ret (v := .agg #[.int .i64 (min P Q), .int .i64 (max P Q)]) (by simp [results, Try.results6, go_sem, t0, t1]) rfl ⟨_, _, rfl, inI_iff.2 (by omega), (Below.refl _ _).alloc (Nat.le_refl _) _⟩
  · go_enter Try.func6, Try.ntmps6
    go_wp2_with fail
    generalize a / 2 ^ (3 + s % 50).toNat = A at *
    generalize b / 2 ^ (3 + s % 50).toNat = B at *
    obtain ⟨P, hP⟩ : ∃ P, max (-2305843009213693952) (min A 2305843009213693952) = P := ⟨_, rfl⟩
    rw [hP]
    obtain ⟨Q, hQ⟩ : ∃ Q, max (-2305843009213693952) (min B 2305843009213693952) = Q := ⟨_, rfl⟩
    rw [hQ]
    try rw [show max (-2305843009213693952) (max (min A 2305843009213693952) Q) = max P Q by omega]
    have k := heap_alloc_new w (.cells #[.int .i64 (min P Q), .int .i64 (max P Q)] 23)
    have t0 := cell_of_block k 0
    have t1 := cell_of_block k 1
    simp only [List.getElem?_toArray, List.getElem?_cons_zero, List.getElem?_cons_succ] at t0 t1
    exact bodyPost_ret (v := .agg #[.int .i64 (min P Q), .int .i64 (max P Q)]) (by simp [results, Try.results6, go_sem, t0, t1]) rfl ⟨_, _, rfl, inI_iff.2 (by omega), (Below.refl _ _).alloc (Nat.le_refl _) _⟩
end Go.Proofs.Ytpligjkbnlfhgaa
