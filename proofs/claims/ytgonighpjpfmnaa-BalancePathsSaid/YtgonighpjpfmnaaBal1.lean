/- balance.valid, slices.Clone, balance.Step, and the reference's. -/
import Derived.Test.YtgonighpjpfmnaaPath2
import Derived.Test.YtgonighpjpfmnaaBal0
import Derived.Test.YtgonighpjpfmnaaScoreLists
namespace Go.Proofs.Ytgonighpjpfmnaa
open Go.RowKit

theorem okB_bad {w : Int} {n m : Nat} {c v : Nat → Int} {arm : Int} (h : w < 0 ∨ 2305843009213693952 < w ∨ n ≠ m ∨ n < 1 ∨ 8 < n ∨ arm < 1 ∨ (n : Int) < arm) : okB w n m c v arm = false := by
  have : ¬ okH w n m arm := by unfold okH; omega
  simp [okB, this]
theorem okB_ok {w : Int} {n m : Nat} {c v : Nat → Int} {arm : Int} (h : okH w n m arm) : okB w n m c v arm = okC c v n := by simp [okB, h]
theorem okC_false {c v : Nat → Int} {k n : Nat} (hk : k < n) (h : c k < 0 ∨ 512 < c k ∨ v k < 1 ∨ 10000 < v k) : okC c v n = false := by
  cases e : okC c v n with
  | false => rfl
  | true => have := okC_iff.1 e k hk; omega

set_option maxHeartbeats 1000000 in
theorem valid90 (x : Int) (A1 A2 : Option Addr) (n m c1 c2 : Nat) (c v : Nat → Int) (arm : Int) (w : World) (hn : n ≤ 1048576) (hm : m ≤ 1048576) (h1 : RowsAt w w.heap.size 1 A1 n fun i => [.int .i64 (c i)]) (h2 : RowsAt w w.heap.size 1 A2 m fun i => [.int .i64 (v i)]) :
    Calls Try.prog 90 #[.int .i64 x, .slice A1 n c1, .slice A2 m c2, .int .i64 arm] w fun e w' => e = .returned (.bool (okB x n m c v arm)) ∧ w = w' := by
  by_cases hH : x < 0 ∨ 2305843009213693952 < x ∨ n ≠ m ∨ n < 1 ∨ 8 < n ∨ arm < 1 ∨ (n : Int) < arm
  · have e := okB_bad (c := c) (v := v) hH
    rw [e]
    clear e
    go_enter Try.func90, Try.ntmps90
    go_wp2_with fail
    all_goals first
      | (go_ret; exact ⟨rfl, rfl⟩)
      | (exfalso; simp at *; omega)
  · have hH' : okH x n m arm := by unfold okH; omega
    rw [okB_ok hH']
    obtain ⟨g1, g2, rfl, g4, g5, g6, g7⟩ := hH'
    have d1 : decide (x < 0) = false := by simp; omega
    have d2 : decide (2305843009213693952 < x) = false := by simp; omega
    have d3 : decide ((n : Int) < 1) = false := by simp; omega
    have d4 : decide (8 < (n : Int)) = false := by simp; omega
    have d5 : decide (arm < 1) = false := by simp; omega
    have d6 : decide ((n : Int) < arm) = false := by simp; omega
    clear hH
    go_enter Try.func90, Try.ntmps90
    go_wp2_with fail
    go_loopg [46, 9, 10] n (fun m i _ _ wr => ∃ j : Nat, j ≤ n ∧ m = n - j ∧ i = .int .i64 j ∧ okC c v j = true ∧ w = wr)
    case atStart => exact ⟨0, by omega, by omega, rfl, rfl, rfl⟩
    case round =>
      obtain ⟨j, hj, hmj, rfl, hok, rfl⟩ := hrel
      have HMJ := Lib.hid hmj
      have HK := Lib.hid hok
      clear hmj hok
      by_cases hjn : j < n
      · obtain ⟨b, off, rfl, _, hc⟩ := h1 (by omega)
        obtain ⟨b', off', rfl, _, hc'⟩ := h2 (by omega)
        have v0 := hc j hjn 0 _ rfl
        have u0 := hc' j hjn 0 _ rfl
        simp only [Nat.add_zero, Nat.mul_one] at v0 u0
        clear hc hc' h1 h2
        by_cases hbad : c j < 0 ∨ 512 < c j ∨ v j < 1 ∨ 10000 < v j
        · have e := Lib.hid (okC_false (c := c) (v := v) hjn hbad)
          go_wp2_with fail
          all_goals first
            | (go_ret; exact ⟨by rw [e.out]; rfl, rfl⟩)
            | (exfalso; simp at *; omega)
        · have q1 : decide (c j < 0) = false := by simp; omega
          have q2 : decide (512 < c j) = false := by simp; omega
          have q3 : decide (v j < 1) = false := by simp; omega
          have q4 : decide (10000 < v j) = false := by simp; omega
          have e : okC c v (j + 1) = true := by simp only [okC, HK.out, Bool.true_and, Bool.and_eq_true, decide_eq_true_eq]; omega
          have E := Lib.hid e
          clear e
          go_wp2_with fail
          go_roundg (n - (j + 1))
          case measure => have := HMJ.out; omega
          case rel => exact ⟨j + 1, by omega, rfl, by go_num, E.out, rfl⟩
      · obtain rfl : j = n := by omega
        go_wp2_with fail
        go_ret
        exact ⟨by rw [HK.out]; rfl, rfl⟩
set_option maxHeartbeats 1000000 in
theorem valid91 (x : Int) (A1 A2 : Option Addr) (n m c1 c2 : Nat) (c v : Nat → Int) (arm : Int) (w : World) (hn : n ≤ 1048576) (hm : m ≤ 1048576) (h1 : RowsAt w w.heap.size 1 A1 n fun i => [.int .i64 (c i)]) (h2 : RowsAt w w.heap.size 1 A2 m fun i => [.int .i64 (v i)]) :
    Calls Try.prog 91 #[.int .i64 x, .slice A1 n c1, .slice A2 m c2, .int .i64 arm] w fun e w' => e = .returned (.bool (okB x n m c v arm)) ∧ w = w' := by
  by_cases hH : x < 0 ∨ 2305843009213693952 < x ∨ n ≠ m ∨ n < 1 ∨ 8 < n ∨ arm < 1 ∨ (n : Int) < arm
  · have e := okB_bad (c := c) (v := v) hH
    rw [e]
    clear e
    go_enter Try.func91, Try.ntmps91
    go_wp2_with fail
    all_goals first
      | (go_ret; exact ⟨rfl, rfl⟩)
      | (exfalso; simp at *; omega)
  · have hH' : okH x n m arm := by unfold okH; omega
    rw [okB_ok hH']
    obtain ⟨g1, g2, rfl, g4, g5, g6, g7⟩ := hH'
    have d1 : decide (x < 0) = false := by simp; omega
    have d2 : decide (2305843009213693952 < x) = false := by simp; omega
    have d3 : decide ((n : Int) < 1) = false := by simp; omega
    have d4 : decide (8 < (n : Int)) = false := by simp; omega
    have d5 : decide (arm < 1) = false := by simp; omega
    have d6 : decide ((n : Int) < arm) = false := by simp; omega
    clear hH
    go_enter Try.func91, Try.ntmps91
    go_wp2_with fail
    go_loopg [9] n (fun m i wr => ∃ j : Nat, j ≤ n ∧ m = n - j ∧ i = .int .i64 j ∧ okC c v j = true ∧ w = wr)
    case atStart => exact ⟨0, by omega, by omega, rfl, rfl, rfl⟩
    case round =>
      obtain ⟨j, hj, hmj, rfl, hok, rfl⟩ := hrel
      have HMJ := Lib.hid hmj
      have HK := Lib.hid hok
      clear hmj hok
      by_cases hjn : j < n
      · obtain ⟨b, off, rfl, _, hc⟩ := h1 (by omega)
        obtain ⟨b', off', rfl, _, hc'⟩ := h2 (by omega)
        have v0 := hc j hjn 0 _ rfl
        have u0 := hc' j hjn 0 _ rfl
        simp only [Nat.add_zero, Nat.mul_one] at v0 u0
        clear hc hc' h1 h2
        by_cases hbad : c j < 0 ∨ 512 < c j ∨ v j < 1 ∨ 10000 < v j
        · have e := Lib.hid (okC_false (c := c) (v := v) hjn hbad)
          go_wp2_with fail
          all_goals first
            | (go_ret; exact ⟨by rw [e.out]; rfl, rfl⟩)
            | (exfalso; simp at *; omega)
        · have q1 : decide (c j < 0) = false := by simp; omega
          have q2 : decide (512 < c j) = false := by simp; omega
          have q3 : decide (v j < 1) = false := by simp; omega
          have q4 : decide (10000 < v j) = false := by simp; omega
          have e : okC c v (j + 1) = true := by simp only [okC, HK.out, Bool.true_and, Bool.and_eq_true, decide_eq_true_eq]; omega
          have E := Lib.hid e
          clear e
          go_wp2_with fail
          go_roundg (n - (j + 1))
          case measure => have := HMJ.out; omega
          case rel => exact ⟨j + 1, by omega, rfl, by go_num, E.out, rfl⟩
      · obtain rfl : j = n := by omega
        go_wp2_with fail
        go_ret
        exact ⟨by rw [HK.out]; rfl, rfl⟩

theorem flat_intC (l : List Int) : l.flatMap intC = l.map (Value.int .i64) := by
  induction l with
  | nil => rfl
  | cons a l ih => rw [List.flatMap_cons, List.map_cons, ih]; rfl

theorem own_some {α : Type} {c : α → List Value} {e size : Nat} {w : World} {B : Nat} {v : Value} {l : List α} (h : Own c e size w B v l) (hl : 0 < l.length) : ∃ g cap cur, v = .slice (some ⟨g, 0, none⟩) l.length cap ∧ B ≤ g ∧ w.heap[g]? = some (.cells cur e (0, 0)) ∧ l.length ≤ cap := by
  rcases h.2 with ⟨_, h0⟩ | ⟨g, cap, cur, hv, hB, hg, hn, _⟩
  · omega
  · exact ⟨g, cap, cur, hv, hB, hg, hn⟩

/-- slices.Clone of a list of numbers. -/
theorem clone89 (A : Option Addr) (n c : Nat) (f : Nat → Int) (w : World) (hn : n ≤ 1048576) (h : RowsAt w w.heap.size 1 A n fun i => [.int .i64 (f i)]) :
    Calls Try.prog 89 #[.slice A n c] w fun e w' => ∃ v, e = .returned v ∧ Own intC 3 1 w' w.heap.size v ((List.range n).map f) ∧ Below w.heap.size w w' := by
  by_cases h0 : n = 0
  · subst h0
    cases A with
    | none =>
      refine (Try.slices_Clone_nil 0 c w).mono ?_
      rintro e w' ⟨rfl, rfl⟩
      exact ⟨_, rfl, Own.nil _ _ _ _ _, Below.refl _ _⟩
    | some a =>
      refine (Try.slices_Clone_int_zero a c w).mono ?_
      rintro e w' ⟨v, rfl, h1, _, h3⟩
      exact ⟨v, rfl, h1, h3⟩
  · obtain ⟨b, off, rfl, _, hc⟩ := h (by omega)
    have hz : ∀ w, (Go.sizeOf 3).run Try.prog w = .ok 1 w := fun _ => by kernel_rfl
    obtain ⟨i0, hi, hz0, hz1, hz2⟩ := info_parts info3
    refine (Try.slices_Clone i0 (.int .i64 0) 1 8 hi hz0 hz1 hz2 rfl (by omega) hz b off n c (((List.range n).map f).map (Value.int .i64)) w (by simp) (by unfold maxLen; omega) (by omega) (fun j u hu => ?_) (fun u hu => ?_)).mono ?_
    · have hj : j < n := by have := (List.getElem?_eq_some_iff.1 hu).1; simpa using this
      have := hc j hj 0 _ rfl
      rw [List.getElem?_map, List.getElem?_map, List.getElem?_range hj] at hu
      simp only [Option.map_some, Option.some.injEq] at hu
      rw [← hu]
      simpa using this
    · simp only [List.mem_map] at hu
      obtain ⟨_, _, rfl⟩ := hu
      rfl
    · rintro e w' ⟨v, rfl, h1, _, h3⟩
      refine ⟨v, rfl, ?_, h3⟩
      unfold Own
      rw [flat_intC, List.length_map, List.length_range]
      exact h1

theorem own_setI {w : World} {B g n cap : Nat} {l : List Int} (h : Own intC 3 1 w B (.slice (some ⟨g, 0, none⟩) n cap) l) (hn : n = l.length) (k : Nat) (hk : k < l.length) (m : Int) :
    Own intC 3 1 (w.setCell ⟨g, k, none⟩ (.int .i64 m)) B (.slice (some ⟨g, 0, none⟩) n cap) (l.set k m) ∧ w.grownBy (w.setCell ⟨g, k, none⟩ (.int .i64 m)) (some g) := by
  subst hn
  obtain ⟨h1, h2⟩ := World.ownsRow.stored h k (.int .i64 m)
  refine ⟨?_, h2⟩
  unfold Own
  have e := flat_set intC 1 intC_len m (.int .i64 m) 0 (by omega) l k (l.getD k 0) (by rw [List.getElem?_eq_getElem hk, List.getD_eq_getElem?_getD, List.getElem?_eq_getElem hk]; rfl) rfl
  rw [Nat.mul_one, Nat.add_zero] at e
  rw [List.length_set, ← e]
  exact h1
end Go.Proofs.Ytgonighpjpfmnaa
