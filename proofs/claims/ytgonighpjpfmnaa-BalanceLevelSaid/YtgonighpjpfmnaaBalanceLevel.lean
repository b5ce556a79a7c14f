/- The walk of flagstonelaw42.BalanceLevel. -/
import Derived.Test.YtgonighpjpfmnaaBalLevel
import Derived.Test.YtgonighpjpfmnaaAwake42
namespace Go.Proofs.Ytgonighpjpfmnaa
open Go.RowKit

theorem level_end {r thr n A : Int} (h : r * thr ≤ 4294967296 * A) (hthr : 4294967296000 ≤ thr * n) (hn : 1 ≤ n) (hr : 0 ≤ r) : r * 1000 ≤ n * A := by
  have h1 : r * 4294967296000 ≤ r * (thr * n) := Int.mul_le_mul_of_nonneg_left hthr hr
  have h2 : r * thr * n ≤ 4294967296 * A * n := Int.mul_le_mul_of_nonneg_right h (by omega)
  have e1 : r * (thr * n) = r * thr * n := (Int.mul_assoc _ _ _).symm
  have e2 : 4294967296 * A * n = 4294967296 * (n * A) := by rw [Int.mul_assoc, Int.mul_comm A n]
  omega

theorem ceil_bd {a n : Int} (hn : 1 ≤ n) (ha : 0 ≤ a) : a ≤ (a + n - 1) / n * n ∧ 0 ≤ (a + n - 1) / n ∧ (a + n - 1) / n ≤ a + n - 1 := by
  have h1 := Int.mul_ediv_add_emod (a + n - 1) n
  have h2 := Int.emod_lt_of_pos (a + n - 1) (show 0 < n by omega)
  rw [Int.mul_comm] at h1
  exact ⟨by omega, Int.ediv_nonneg (by omega) (by omega), Int.ediv_le_self _ (by omega)⟩

theorem triple_at (a b c : Int) (z : Array Value) : ∀ i, i < 3 → ((#[.int .i64 a, .int .i64 b, .int .i64 c] : Array Value) ++ z)[i]? = some (.int .i64 (([a, b, c] : List Int).getD i 0))
  | 0, _ => by rw [Array.getElem?_append_left (by simp)]; rfl
  | 1, _ => by rw [Array.getElem?_append_left (by simp)]; rfl
  | 2, _ => by rw [Array.getElem?_append_left (by simp)]; rfl
  | i + 3, h => absurd h (by omega)

theorem triple_at' (a b c : Int) : ∀ i, i < 3 → (#[.int .i64 a, .int .i64 b, .int .i64 c] : Array Value)[i]? = some (.int .i64 (([a, b, c] : List Int).getD i 0))
  | 0, _ => rfl
  | 1, _ => rfl
  | 2, _ => rfl
  | i + 3, h => absurd h (by omega)

theorem pow_le_pow' {a b : Int} (ha : 0 ≤ a) (hab : a ≤ b) : ∀ k : Nat, a ^ k ≤ b ^ k
  | 0 => by simp
  | k + 1 => by
    rw [Int.pow_succ, Int.pow_succ]
    exact Int.mul_le_mul (pow_le_pow' ha hab k) hab ha (Int.pow_nonneg (by omega))

set_option maxRecDepth 100000 in
set_option maxHeartbeats 2000000 in
theorem balanceLevel16 (a0 a1 a2 : Int) (a3 : Bool) (a4 : Int) (w : World) (w0 : (Lit.int .u8 a0).wf = true) (w1 : (Lit.int .u8 a1).wf = true) (w2 : (Lit.int .u8 a2).wf = true) (w4 : (Lit.int .u8 a4).wf = true) :
    Calls Try.prog 16 #[.int .u8 a0, .int .u8 a1, .int .u8 a2, .bool a3, .int .u8 a4] w fun e w' => e = .returned (.bool true) ∧ Below w.heap.size w w' := by
  have b0 := bounds_u8 w0
  have b1 := bounds_u8 w1
  have b2 := bounds_u8 w2
  have b4 := bounds_u8 w4
  obtain ⟨i0, hi, hz0, hz1, hz2⟩ := info_parts info3
  clear w0 w1 w2 w4
  have mk2 : ∀ w : World, (Instr.makeSlice 44 (.int .i64 2) (.int .i64 2)).run Try.prog w = .ok (.slice (some ⟨w.heap.size, 0, none⟩) 2 2) (w.alloc (.cells #[.int .i64 0, .int .i64 0] 3)) := fun _ => by kernel_rfl
  have mk3 : ∀ w : World, (Instr.makeSlice 44 (.int .i64 3) (.int .i64 3)).run Try.prog w = .ok (.slice (some ⟨w.heap.size, 0, none⟩) 3 3) (w.alloc (.cells #[.int .i64 0, .int .i64 0, .int .i64 0] 3)) := fun _ => by kernel_rfl
  obtain ⟨p, hp⟩ : ∃ p, 1 + a0 % 9 = p := ⟨_, rfl⟩
  obtain ⟨q, hq⟩ : ∃ p, 1 + a1 % 9 = p := ⟨_, rfl⟩
  obtain ⟨r, hr⟩ : ∃ p, 1 + a2 % 9 = p := ⟨_, rfl⟩
  have hpb : 1 ≤ p ∧ p ≤ 9 := by omega
  have hqb : 1 ≤ q ∧ q ≤ 9 := by omega
  have hrb : 1 ≤ r ∧ r ≤ 9 := by omega
  obtain ⟨n, hn⟩ : ∃ n, 1 + a4 % 255 * 3 = n := ⟨_, rfl⟩
  have hnb : 1 ≤ n ∧ n ≤ 763 := by omega
  cases a3 with
  | false =>
    go_enter Try.func16, Try.ntmps16
    go_wp2_with fail
    refine (awake51 w).mono ?_
    rintro e w1 ⟨rfl, hb1⟩
    go_wp2_with fail
    have gw : (w1.alloc (.cells #[.int .i64 p, .int .i64 q] 3)).heap[w1.heap.size]? = some (.cells #[.int .i64 p, .int .i64 q] 3 (0, 0)) := by
      exact heap_alloc_new w1 _
    have hb2 : Below w.heap.size w (w1.alloc (.cells #[.int .i64 p, .int .i64 q] 3)) := hb1.alloc hb1.size _
    generalize hGe : w1.heap.size = G at *
    generalize (w1.alloc (.cells #[.int .i64 p, .int .i64 q] 3)) = w2 at *
    clear hGe
    have hG := lt_of_blk gw
    have hR : RowsAt w2 w2.heap.size 1 (some ⟨G, 0, none⟩) 2 (fun i => [.int .i64 (([p, q] : List Int).getD i 0)]) := rows_of_ints gw (pair_at p q)
    have u0 : w2.cell? ⟨G, 0, none⟩ = some (.int .i64 p) := by have := hR.at (i := 0) (by omega) (j := 0) (u := .int .i64 p) rfl; simpa using this
    have u1 : w2.cell? ⟨G, 1, none⟩ = some (.int .i64 q) := by have := hR.at (i := 1) (by omega) (j := 0) (u := .int .i64 q) rfl; simpa using this
    clear gw
    have hsum : sumI (fun i => ([p, q] : List Int).getD i 0) 2 = p + q := by
      have : sumI (fun i => ([p, q] : List Int).getD i 0) 2 = 0 + p + q := by simp only [sumI, List.getD_cons_zero, List.getD_cons_succ]
      omega
    have hv : ∀ i, i < 2 → 1 ≤ ([p, q] : List Int).getD i 0 ∧ ([p, q] : List Int).getD i 0 ≤ 9 := fun i hi => by
      have h : i = 0 ∨ i = 1 := by omega
      rcases h with rfl | rfl <;> simp only [List.getD_cons_zero, List.getD_cons_succ] <;> omega
    obtain ⟨S, hS⟩ : ∃ S, p + q = S := ⟨_, rfl⟩
    have hSb : 1 ≤ S ∧ S ≤ 18 := by omega
    rw [hS] at hsum
    have hmax : S ^ 7 ≤ 1000000000 := Int.le_trans (pow_le_pow' (by omega) hSb.2 7) (by decide)
    go_loopg [15, 13] 7 (fun mm i s wr => ∃ k : Nat, k ≤ 7 ∧ mm = 7 - k ∧ i = .int .i64 k ∧ s = .int .i64 (S ^ k) ∧ Below w2.heap.size w2 wr)
    case atStart => exact ⟨0, by omega, by omega, rfl, by simp, Below.refl _ _⟩
    case round =>
      obtain ⟨k, hk, hmk, rfl, rfl, hbr⟩ := hrel
      have HMK := Lib.hid hmk
      clear hmk
      by_cases hkk : k < 7
      · have hdk : decide ((k : Int) < 7) = true := by simp; omega
        have v0 := (hbr.cell hG).trans u0
        have v1 := (hbr.cell hG).trans u1
        have p1 := pow_pos' hSb.1 k
        have p2 : S ^ k * S ≤ 1000000000 := by
          rw [← Int.pow_succ]
          have := pow_le' hSb.1 (k + 1) (7 - (k + 1))
          rw [show k + 1 + (7 - (k + 1)) = 7 by omega] at this
          exact Int.le_trans this hmax
        have p3 : 0 ≤ S ^ k * S := Int.mul_nonneg (by omega) (by omega)
        have p4 : IntKind.i64.wrap (S ^ k * S) = S ^ k * S := IntWalk.i64_in _ (by omega)
        have e5 : S ^ (k + 1) = S ^ k * S := Int.pow_succ _ _
        have E5 := Lib.hid e5
        clear e5 u0 u1
        generalize S ^ k = Y at *
        go_wp2_with fail
        go_quiet (fail)
        go_wp2_with fail
        go_roundg (7 - (k + 1))
        case measure => have := HMK.out; omega
        case rel => exact ⟨k + 1, by omega, rfl, by go_num, by rw [E5.out], below_drewN hbr _⟩
      · have hdk : decide ((k : Int) < 7) = false := by simp; omega
        obtain rfl : k = 7 := by omega
        have hcb := ceil_bd (a := 4294967296000) (n := n) hnb.1 (by omega)
        obtain ⟨thr, hthr⟩ : ∃ t, (4294967296000 + n - 1) / n = t := ⟨_, rfl⟩
        rw [hthr] at hcb
        have hpos := pow_pos' hSb.1 7
        obtain ⟨Y, hY⟩ : ∃ Y, S ^ 7 = Y := ⟨_, rfl⟩
        rw [hY] at hmax hpos
        rw [hY]
        have HY := Lib.hid hY
        clear u0 u1 hY
        have hn0 : 0 < n := by omega
        have hn1 : ¬ n = 0 := by omega
        go_wp2_with fail
        have gz := heap_alloc_new wr (.cells #[.int .i64 0, .int .i64 0] 3)
        have hbz : Below wr.heap.size wr (wr.alloc (.cells #[.int .i64 0, .int .i64 0] 3)) := (Below.refl _ _).alloc (Nat.le_refl _) _
        have hZ : RowsAt (wr.alloc (.cells #[.int .i64 0, .int .i64 0] 3)) (wr.alloc (.cells #[.int .i64 0, .int .i64 0] 3)).heap.size 1 (some ⟨wr.heap.size, 0, none⟩) 2 (fun i => [.int .i64 (([0, 0] : List Int).getD i 0)]) := rows_of_ints gz (pair_at 0 0)
        have hbq := below_trans' hbr hbr.size hbz
        have hR2 := (hR.below hbq (Nat.le_refl _)).more hbq.size
        have hreach := reaches55 (some ⟨G, 0, none⟩) 2 2 (fun i => ([p, q] : List Int).getD i 0) thr (by omega) (by omega) hv 7 (by omega) (by rw [hsum, HY.out]; exact hmax) 4294967296 (some ⟨wr.heap.size, 0, none⟩) 2 (fun i => ([0, 0] : List Int).getD i 0) _ (by omega) (by omega) hZ hR2
        rw [hsum, HY.out] at hreach
        have HRC := Lib.hid hreach
        clear hreach
        refine HRC.out.mono ?_
        rintro e w5 ⟨t, rfl, ⟨ht0, ht1, ht2⟩, hb5⟩
        have hend := level_end ht2 hcb.1 hnb.1 ht0
        have hnY := mul_le4 (a := Y) (b := n) (A := 1000000000) (B := 763) (by omega) (by omega) (by omega) (by omega) (by omega)
        have hnY0 : 0 ≤ n * Y := Int.mul_nonneg (by omega) (by omega)
        have hnYw : IntKind.i64.wrap (n * Y) = n * Y := IntWalk.i64_in _ (by omega)
        have hfin : Below w.heap.size w w5 := hb2.trans ((below_trans' hbq hbq.size hb5).mono hb2.size)
        clear ht2 hcb
        go_wp2_with fail
        go_ret
        exact ⟨rfl, hfin⟩
  | true =>
    go_enter Try.func16, Try.ntmps16
    go_wp2_with fail
    refine (awake51 w).mono ?_
    rintro e w1 ⟨rfl, hb1⟩
    go_wp2_with fail
    have gw : (((w1.alloc (.cells #[.int .i64 p, .int .i64 q] 3)).alloc (.cells #[.int .i64 r] 3)).alloc (.cells (#[.int .i64 p, .int .i64 q, .int .i64 r] ++ Builtin.zeroCells #[.int .i64 0] ((Question.appendCap 3 2 3).cut (w1.tape w1.drawn (Question.appendCap 3 2 3)) - 3)) 3)).drew.heap[w1.heap.size + 1 + 1]? = some (.cells (#[.int .i64 p, .int .i64 q, .int .i64 r] ++ Builtin.zeroCells #[.int .i64 0] ((Question.appendCap 3 2 3).cut (w1.tape w1.drawn (Question.appendCap 3 2 3)) - 3)) 3 (0, 0)) := by
      have h := heap_alloc_new ((w1.alloc (.cells #[.int .i64 p, .int .i64 q] 3)).alloc (.cells #[.int .i64 r] 3)) (.cells (#[.int .i64 p, .int .i64 q, .int .i64 r] ++ Builtin.zeroCells #[.int .i64 0] ((Question.appendCap 3 2 3).cut (w1.tape w1.drawn (Question.appendCap 3 2 3)) - 3)) 3)
      have e : ((w1.alloc (.cells #[.int .i64 p, .int .i64 q] 3)).alloc (.cells #[.int .i64 r] 3)).heap.size = w1.heap.size + 1 + 1 := by simp
      rw [e] at h
      exact h
    have hb2 : Below w.heap.size w (((w1.alloc (.cells #[.int .i64 p, .int .i64 q] 3)).alloc (.cells #[.int .i64 r] 3)).alloc (.cells (#[.int .i64 p, .int .i64 q, .int .i64 r] ++ Builtin.zeroCells #[.int .i64 0] ((Question.appendCap 3 2 3).cut (w1.tape w1.drawn (Question.appendCap 3 2 3)) - 3)) 3)).drew := (((hb1.alloc hb1.size _).alloc (by have := hb1.size; simp; omega) _).alloc (by have := hb1.size; simp; omega) _).drew
    generalize hGe : w1.heap.size + 1 + 1 = G at *
    generalize (((w1.alloc (.cells #[.int .i64 p, .int .i64 q] 3)).alloc (.cells #[.int .i64 r] 3)).alloc (.cells (#[.int .i64 p, .int .i64 q, .int .i64 r] ++ Builtin.zeroCells #[.int .i64 0] ((Question.appendCap 3 2 3).cut (w1.tape w1.drawn (Question.appendCap 3 2 3)) - 3)) 3)).drew = w2 at *
    clear hGe
    have hG := lt_of_blk gw
    have hR : RowsAt w2 w2.heap.size 1 (some ⟨G, 0, none⟩) 3 (fun i => [.int .i64 (([p, q, r] : List Int).getD i 0)]) := rows_of_ints gw (triple_at p q r _)
    have u0 : w2.cell? ⟨G, 0, none⟩ = some (.int .i64 p) := by have := hR.at (i := 0) (by omega) (j := 0) (u := .int .i64 p) rfl; simpa using this
    have u1 : w2.cell? ⟨G, 1, none⟩ = some (.int .i64 q) := by have := hR.at (i := 1) (by omega) (j := 0) (u := .int .i64 q) rfl; simpa using this
    have u2 : w2.cell? ⟨G, 2, none⟩ = some (.int .i64 r) := by have := hR.at (i := 2) (by omega) (j := 0) (u := .int .i64 r) rfl; simpa using this
    clear gw
    have hsum : sumI (fun i => ([p, q, r] : List Int).getD i 0) 3 = p + q + r := by
      have : sumI (fun i => ([p, q, r] : List Int).getD i 0) 3 = 0 + p + q + r := by simp only [sumI, List.getD_cons_zero, List.getD_cons_succ]
      omega
    have hv : ∀ i, i < 3 → 1 ≤ ([p, q, r] : List Int).getD i 0 ∧ ([p, q, r] : List Int).getD i 0 ≤ 9 := fun i hi => by
      have h : i = 0 ∨ i = 1 ∨ i = 2 := by omega
      rcases h with rfl | rfl | rfl <;> simp only [List.getD_cons_zero, List.getD_cons_succ] <;> omega
    obtain ⟨S, hS⟩ : ∃ S, p + q + r = S := ⟨_, rfl⟩
    have hSb : 1 ≤ S ∧ S ≤ 27 := by omega
    rw [hS] at hsum
    have hmax : S ^ 6 ≤ 1000000000 := Int.le_trans (pow_le_pow' (by omega) hSb.2 6) (by decide)
    go_loopg [15, 13] 6 (fun mm i s wr => ∃ k : Nat, k ≤ 6 ∧ mm = 6 - k ∧ i = .int .i64 k ∧ s = .int .i64 (S ^ k) ∧ Below w2.heap.size w2 wr)
    case atStart => exact ⟨0, by omega, by omega, rfl, by simp, Below.refl _ _⟩
    case round =>
      obtain ⟨k, hk, hmk, rfl, rfl, hbr⟩ := hrel
      have HMK := Lib.hid hmk
      clear hmk
      by_cases hkk : k < 6
      · have hdk : decide ((k : Int) < 6) = true := by simp; omega
        have v0 := (hbr.cell hG).trans u0
        have v1 := (hbr.cell hG).trans u1
        have v2 := (hbr.cell hG).trans u2
        have p1 := pow_pos' hSb.1 k
        have p2 : S ^ k * S ≤ 1000000000 := by
          rw [← Int.pow_succ]
          have := pow_le' hSb.1 (k + 1) (6 - (k + 1))
          rw [show k + 1 + (6 - (k + 1)) = 6 by omega] at this
          exact Int.le_trans this hmax
        have p3 : 0 ≤ S ^ k * S := Int.mul_nonneg (by omega) (by omega)
        have p4 : IntKind.i64.wrap (S ^ k * S) = S ^ k * S := IntWalk.i64_in _ (by omega)
        have e5 : S ^ (k + 1) = S ^ k * S := Int.pow_succ _ _
        have E5 := Lib.hid e5
        clear e5 u0 u1 u2
        generalize S ^ k = Y at *
        go_wp2_with fail
        go_quiet (fail)
        go_wp2_with fail
        go_roundg (6 - (k + 1))
        case measure => have := HMK.out; omega
        case rel => exact ⟨k + 1, by omega, rfl, by go_num, by rw [E5.out], below_drewN hbr _⟩
      · have hdk : decide ((k : Int) < 6) = false := by simp; omega
        obtain rfl : k = 6 := by omega
        have hcb := ceil_bd (a := 4294967296000) (n := n) hnb.1 (by omega)
        obtain ⟨thr, hthr⟩ : ∃ t, (4294967296000 + n - 1) / n = t := ⟨_, rfl⟩
        rw [hthr] at hcb
        have hpos := pow_pos' hSb.1 6
        obtain ⟨Y, hY⟩ : ∃ Y, S ^ 6 = Y := ⟨_, rfl⟩
        rw [hY] at hmax hpos
        rw [hY]
        have HY := Lib.hid hY
        clear u0 u1 u2 hY
        have hn0 : 0 < n := by omega
        have hn1 : ¬ n = 0 := by omega
        go_wp2_with fail
        have gz := heap_alloc_new wr (.cells #[.int .i64 0, .int .i64 0, .int .i64 0] 3)
        have hbz : Below wr.heap.size wr (wr.alloc (.cells #[.int .i64 0, .int .i64 0, .int .i64 0] 3)) := (Below.refl _ _).alloc (Nat.le_refl _) _
        have hZ : RowsAt (wr.alloc (.cells #[.int .i64 0, .int .i64 0, .int .i64 0] 3)) (wr.alloc (.cells #[.int .i64 0, .int .i64 0, .int .i64 0] 3)).heap.size 1 (some ⟨wr.heap.size, 0, none⟩) 3 (fun i => [.int .i64 (([0, 0, 0] : List Int).getD i 0)]) := rows_of_ints gz (triple_at' 0 0 0)
        have hbq := below_trans' hbr hbr.size hbz
        have hR2 := (hR.below hbq (Nat.le_refl _)).more hbq.size
        have hreach := reaches55 (some ⟨G, 0, none⟩) 3 ((Question.appendCap 3 2 3).cut (w1.tape w1.drawn (Question.appendCap 3 2 3))) (fun i => ([p, q, r] : List Int).getD i 0) thr (by omega) (by omega) hv 6 (by omega) (by rw [hsum, HY.out]; exact hmax) 4294967296 (some ⟨wr.heap.size, 0, none⟩) 3 (fun i => ([0, 0, 0] : List Int).getD i 0) _ (by omega) (by omega) hZ hR2
        rw [hsum, HY.out] at hreach
        have HRC := Lib.hid hreach
        clear hreach
        refine HRC.out.mono ?_
        rintro e w5 ⟨t, rfl, ⟨ht0, ht1, ht2⟩, hb5⟩
        have hend := level_end ht2 hcb.1 hnb.1 ht0
        have hnY := mul_le4 (a := Y) (b := n) (A := 1000000000) (B := 763) (by omega) (by omega) (by omega) (by omega) (by omega)
        have hnY0 : 0 ≤ n * Y := Int.mul_nonneg (by omega) (by omega)
        have hnYw : IntKind.i64.wrap (n * Y) = n * Y := IntWalk.i64_in _ (by omega)
        have hfin : Below w.heap.size w w5 := hb2.trans ((below_trans' hbq hbq.size hb5).mono hb2.size)
        clear ht2 hcb
        go_wp2_with fail
        go_ret
        exact ⟨rfl, hfin⟩
end Go.Proofs.Ytgonighpjpfmnaa
