/- Threshold, First, SameInts; the sanity check of flagstonelaw40. -/
import Derived.Test.YtgonighpjpfmnaaFactor
namespace Go.Proofs.Ytgonighpjpfmnaa
open Go.RowKit

theorem thr56 (level sides : Int) (w : World) : Calls Try.prog 56 #[.int .i64 level, .int .i64 sides] w fun e w' => e = .returned (.int .i64 (thrI level sides)) ∧ ∃ m, w' = w.drewN m := by
  by_cases h : level < 1 ∨ 999 < level ∨ sides < 1 ∨ 1000 < sides
  · have e : thrI level sides = 2305843009213693953 := by rw [thrI, if_pos h]
    rw [e]
    clear e
    go_enter Try.func56, Try.ntmps56
    go_wp2_with fail
    all_goals (go_ret; exact ⟨rfl, 0, rfl⟩)
  · have e : thrI level sides = (sides * 1000 * 4294967296 + level - 1) / level := by rw [thrI, if_neg h]
    rw [e]
    clear e
    have h1 : decide (level < 1) = false := by simp; omega
    have h2 : decide (999 < level) = false := by simp; omega
    have h3 : decide (sides < 1) = false := by simp; omega
    have h4 : decide (1000 < sides) = false := by simp; omega
    have h5 : 0 < level := by omega
    have h6 : ¬ level = 0 := by omega
    have q1 : 0 ≤ (sides * 1000 * 4294967296 + level - 1) / level := Int.ediv_nonneg (by omega) (by omega)
    have q2 : (sides * 1000 * 4294967296 + level - 1) / level ≤ (sides * 1000 * 4294967296 + level - 1) := Int.ediv_le_self _ (by omega)
    have q3 : IntKind.i64.wrap ((sides * 1000 * 4294967296 + level - 1) / level) = (sides * 1000 * 4294967296 + level - 1) / level := IntWalk.i64_in _ (by omega)
    go_enter Try.func56, Try.ntmps56
    go_wp2_with fail
    all_goals (go_ret; exact ⟨rfl, 0, rfl⟩)

theorem thr57 (level sides : Int) (w : World) : Calls Try.prog 57 #[.int .i64 level, .int .i64 sides] w fun e w' => e = .returned (.int .i64 (thrI level sides)) ∧ ∃ m, w' = w.drewN m := by
  by_cases h : level < 1 ∨ 999 < level ∨ sides < 1 ∨ 1000 < sides
  · have e : thrI level sides = 2305843009213693953 := by rw [thrI, if_pos h]
    rw [e]
    clear e
    go_enter Try.func57, Try.ntmps57
    go_wp2_with fail
    all_goals (go_ret; exact ⟨rfl, 0, rfl⟩)
  · have e : thrI level sides = (sides * 1000 * 4294967296 + level - 1) / level := by rw [thrI, if_neg h]
    rw [e]
    clear e
    have h1 : decide (level < 1) = false := by simp; omega
    have h2 : decide (999 < level) = false := by simp; omega
    have h3 : decide (sides < 1) = false := by simp; omega
    have h4 : decide (1000 < sides) = false := by simp; omega
    have h5 : 0 < level := by omega
    have h6 : ¬ level = 0 := by omega
    have q1 : 0 ≤ (sides * 1000 * 4294967296 + level - 1) / level := Int.ediv_nonneg (by omega) (by omega)
    have q2 : (sides * 1000 * 4294967296 + level - 1) / level ≤ (sides * 1000 * 4294967296 + level - 1) := Int.ediv_le_self _ (by omega)
    have q3 : IntKind.i64.wrap ((sides * 1000 * 4294967296 + level - 1) / level) = (sides * 1000 * 4294967296 + level - 1) / level := IntWalk.i64_in _ (by omega)
    go_enter Try.func57, Try.ntmps57
    go_wp2_with fail
    all_goals (go_ret; exact ⟨rfl, 0, rfl⟩)

theorem lt_snoc {f : Nat → Int} {t : Int} {j : Nat} (h : ∀ k, k < j → f k < t) (hn : ¬ t ≤ f j) : ∀ k, k < j + 1 → f k < t := fun k hk => by
  by_cases hkj : k = j
  · subst hkj; omega
  · exact h k (by omega)

theorem first58 (A : Option Addr) (n c : Nat) (f : Nat → Int) (t : Int) (w : World) (hn : n ≤ 1048576) (h : RowsAt w w.heap.size 1 A n fun i => [.int .i64 (f i)]) :
    Calls Try.prog 58 #[.slice A n c, .int .i64 t] w fun e w' => e = .returned (.int .i64 (firstN f t n)) ∧ w = w' := by
  go_enter Try.func58, Try.ntmps58
  go_wp2_with fail
  go_loopg [9, 5, 6] n (fun m i _ _ wr => ∃ j : Nat, j ≤ n ∧ m = n - j ∧ i = .int .i64 j ∧ (∀ k, k < j → f k < t) ∧ w = wr)
  case atStart => exact ⟨0, Nat.zero_le _, by omega, rfl, fun k hk => by omega, rfl⟩
  case round =>
    obtain ⟨j, hj, hm, rfl, hf, rfl⟩ := hrel
    have HM := Lib.hid hm
    have HF := Lib.hid hf
    clear hm hf
    by_cases hjn : j < n
    · obtain ⟨b, off, rfl, _, hc⟩ := h (by omega)
      have v0 := hc j hjn 0 _ rfl
      simp only [Nat.add_zero, Nat.mul_one] at v0
      clear hc h
      cases ht : decide (t ≤ f j) with
      | true =>
        have e : firstN f t n = j + 1 := firstN_some (of_decide_eq_true ht) HF.out hjn
        have e := Lib.hid e
        go_wp2_with fail
        go_ret
        exact ⟨by rw [e.out]; simp, rfl⟩
      | false =>
        have hn2 := of_decide_eq_false ht
        go_wp2_with fail
        go_roundg (n - (j + 1))
        case measure => have := HM.out; omega
        case rel => exact ⟨j + 1, by omega, rfl, by go_num, lt_snoc HF.out (by omega), rfl⟩
    · have e : firstN f t n = 0 := firstN_none fun k hk => HF.out k (by omega)
      have e := Lib.hid e
      go_wp2_with fail
      go_ret
      exact ⟨by rw [e.out]; simp, rfl⟩

theorem first59 (A : Option Addr) (n c : Nat) (f : Nat → Int) (t : Int) (w : World) (hn : n ≤ 1048576) (h : RowsAt w w.heap.size 1 A n fun i => [.int .i64 (f i)]) :
    Calls Try.prog 59 #[.slice A n c, .int .i64 t] w fun e w' => e = .returned (.int .i64 (firstN f t n)) ∧ w = w' := by
  go_enter Try.func59, Try.ntmps59
  go_wp2_with fail
  go_loopg [5] n (fun m i wr => ∃ j : Nat, j ≤ n ∧ m = n - j ∧ i = .int .i64 j ∧ (∀ k, k < j → f k < t) ∧ w = wr)
  case atStart => exact ⟨0, Nat.zero_le _, by omega, rfl, fun k hk => by omega, rfl⟩
  case round =>
    obtain ⟨j, hj, hm, rfl, hf, rfl⟩ := hrel
    have HM := Lib.hid hm
    have HF := Lib.hid hf
    clear hm hf
    by_cases hjn : j < n
    · obtain ⟨b, off, rfl, _, hc⟩ := h (by omega)
      have v0 := hc j hjn 0 _ rfl
      simp only [Nat.add_zero, Nat.mul_one] at v0
      clear hc h
      cases ht : decide (t ≤ f j) with
      | true =>
        have e : firstN f t n = j + 1 := firstN_some (of_decide_eq_true ht) HF.out hjn
        have e := Lib.hid e
        go_wp2_with fail
        go_ret
        exact ⟨by rw [e.out]; simp, rfl⟩
      | false =>
        have hn2 := of_decide_eq_false ht
        go_wp2_with fail
        go_roundg (n - (j + 1))
        case measure => have := HM.out; omega
        case rel => exact ⟨j + 1, by omega, rfl, by go_num, lt_snoc HF.out (by omega), rfl⟩
    · have e : firstN f t n = 0 := firstN_none fun k hk => HF.out k (by omega)
      have e := Lib.hid e
      go_wp2_with fail
      go_ret
      exact ⟨by rw [e.out]; simp, rfl⟩

/-- The same numbers. -/
theorem same54 (A1 A2 : Option Addr) (n c1 c2 : Nat) (f : Nat → Int) (w : World) (hn : n ≤ 1048576) (h1 : RowsAt w w.heap.size 1 A1 n fun i => [.int .i64 (f i)]) (h2 : RowsAt w w.heap.size 1 A2 n fun i => [.int .i64 (f i)]) :
    Calls Try.prog 54 #[.slice A1 n c1, .slice A2 n c2] w fun e w' => e = .returned (.bool true) ∧ Below w.heap.size w w' := by
  go_enter Try.func54, Try.ntmps54
  go_wp2_with fail
  go_loopg [5] n (fun m i wr => ∃ j : Nat, j ≤ n ∧ m = n - j ∧ i = .int .i64 j ∧ Below w.heap.size w wr)
  case atStart => exact ⟨0, Nat.zero_le _, by omega, rfl, Below.refl _ _⟩
  case round =>
    obtain ⟨j, hj, hm, rfl, hb⟩ := hrel
    have HM := Lib.hid hm
    clear hm
    by_cases hjn : j < n
    · obtain ⟨b, off, rfl, _, hc⟩ := h1.below hb (Nat.le_refl _) (by omega)
      obtain ⟨b', off', rfl, _, hc'⟩ := h2.below hb (Nat.le_refl _) (by omega)
      have v0 := hc j hjn 0 _ rfl
      have u0 := hc' j hjn 0 _ rfl
      simp only [Nat.add_zero, Nat.mul_one] at v0 u0
      clear hc hc' h1 h2
      go_wp2_with fail
      go_quiet (fail)
      go_wp2_with fail
      go_roundg (n - (j + 1))
      case measure => have := HM.out; omega
      case rel => exact ⟨j + 1, by omega, rfl, by go_num, below_drewN hb _⟩
    · go_wp2_with fail
      go_ret
      exact ⟨rfl, hb⟩

theorem awake44 (w : World) : Calls Try.prog 44 #[] w fun e w' => e = .returned (.bool true) ∧ Below w.heap.size w w' := by
  have e1 : facN 0 1 1 0 1 true = 8000 := by decide
  have e2 : facD 0 1 1 0 1 = 8000 := by decide
  have e3 : thrI 50 2 = 171798691840 := by decide
  have e4 : growI 3 2 4 = 1 := by decide
  go_enter Try.func44, Try.ntmps44
  go_wp2_with fail
  refine (fac47 0 1 1 0 1 true w (by omega) (by omega)).mono ?_
  rintro e w1 ⟨rfl, hb1⟩
  rw [e1, e2]
  go_wp2_with fail
  refine (thr56 50 2 w1).mono ?_
  rintro e w2 ⟨rfl, m2, rfl⟩
  rw [e3]
  go_wp2_with fail
  refine (grow45 3 2 4 _ (by omega) (by omega)).mono ?_
  rintro e w2 ⟨rfl, m3, rfl⟩
  rw [e4]
  go_wp2_with fail
  go_ret
  exact ⟨rfl, below_drewN hb1 _⟩
end Go.Proofs.Ytgonighpjpfmnaa
