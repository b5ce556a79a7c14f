/- The operations by their number, and their agreement. No statement is proved here. -/
import Derived.Test.YtpligjkbnlfhgaaRefMul
import Derived.Test.YtpligjkbnlfhgaaRefDiv
import Derived.Test.YtpligjkbnlfhgaaIntB
import Derived.Test.YtpligjkbnlfhgaaIntI
import Derived.Deep.RegionHeld3
namespace Go.Proofs.Ytpligjkbnlfhgaa
open Go.RowKit

/-- Operation i. -/
def opI (i : Nat) (a b c d : Int) : IR := match i with
  | 0 => addI a b c d
  | 1 => subI a b c d
  | 2 => mulI a b c d
  | 3 => divI a b c d
  | 4 => meetI a b c d
  | 5 => hullI a b c d
  | _ => sqrtI a b
theorem res_parts (R : IR) : ∃ X Y ok, resV R = .tuple #[.agg #[.int .i64 X, .int .i64 Y], .bool ok] ∧ (ok = false ∧ R = none ∨ ok = true ∧ R = some (X, Y)) := by
  cases R with
  | none => exact ⟨_, _, _, rfl, .inl ⟨rfl, rfl⟩⟩
  | some r => obtain ⟨x, y⟩ := r; exact ⟨_, _, _, rfl, .inr ⟨rfl, rfl⟩⟩

set_option maxRecDepth 100000 in
set_option maxHeartbeats 4000000 in
theorem operate8 (i : Nat) (a b c d : Int) (w : World) (hi : i < 7) : Calls Try.prog 8 #[.int .i64 i, .agg #[.int .i64 a, .int .i64 b], .agg #[.int .i64 c, .int .i64 d]] w fun e w' => e = .returned (resV (opI i a b c d)) ∧ Below w.heap.size w w' := by
  obtain ⟨hbW, g0, g1, g2⟩ := allocs3 w (ivA a b) (ivA c d) #[.int .i64 0, .int .i64 0] 23 23 23
  unfold ivA at *
  have hw2 : w.heap.size ≤ w.heap.size + 1 + 1 := by omega
  have k0 := cells2i g0
  have k1 := cells2i g1
  obtain ⟨X, Y, ok, hX, -⟩ := res_parts (opI i a b c d)
  have hx : resV (opI i a b c d) = .tuple #[.agg #[.int .i64 X, .int .i64 Y], .bool ok] := hX
  rw [hX]
  rcases (by omega : i = 0 ∨ i = 1 ∨ i = 2 ∨ i = 3 ∨ i = 4 ∨ i = 5 ∨ i = 6) with rfl | rfl | rfl | rfl | rfl | rfl | rfl
  · have C : ∀ w, Calls Try.prog 17 #[.agg #[.int .i64 a, .int .i64 b], .agg #[.int .i64 c, .int .i64 d]] w fun e w' => e = .returned (.tuple #[.agg #[.int .i64 X, .int .i64 Y], .bool ok]) ∧ Below w.heap.size w w' := fun w => by rw [← hX]; exact add17 a b c d w
    have C' := Lib.hid C
    clear C hX hx
    go_enter Try.func8, Try.ntmps8
    go_wp2_with fail
    generalize ((w.alloc (.cells #[.int .i64 a, .int .i64 b] 23)).alloc (.cells #[.int .i64 c, .int .i64 d] 23)).alloc (.cells #[.int .i64 0, .int .i64 0] 23) = W at *
    refine (C'.out W).mono ?_
    rintro e w1 ⟨rfl, hb1⟩
    have G2 := blk_below hb1 g2
    have x2 := cells2i G2
    have f2 := free_of_block G2
    obtain ⟨y0, y1⟩ := ret2i (A := X) (B := Y) G2
    have hbe := below_sets2 (below_trans' hbW hbW.size hb1) hw2 (.int .i64 X) (.int .i64 Y)
    clear hb1 hbW k0 k1 G2 g0 g1 g2
    go_wp2_with fail
    exact bodyPost_ret (v := .tuple #[.agg #[.int .i64 X, .int .i64 Y], .bool ok]) (by simp [results, Try.results8, go_sem, y0, y1]) rfl ⟨rfl, hbe⟩
  · have C : ∀ w, Calls Try.prog 18 #[.agg #[.int .i64 a, .int .i64 b], .agg #[.int .i64 c, .int .i64 d]] w fun e w' => e = .returned (.tuple #[.agg #[.int .i64 X, .int .i64 Y], .bool ok]) ∧ Below w.heap.size w w' := fun w => by rw [← hX]; exact sub18 a b c d w
    have C' := Lib.hid C
    clear C hX hx
    go_enter Try.func8, Try.ntmps8
    go_wp2_with fail
    generalize ((w.alloc (.cells #[.int .i64 a, .int .i64 b] 23)).alloc (.cells #[.int .i64 c, .int .i64 d] 23)).alloc (.cells #[.int .i64 0, .int .i64 0] 23) = W at *
    refine (C'.out W).mono ?_
    rintro e w1 ⟨rfl, hb1⟩
    have G2 := blk_below hb1 g2
    have x2 := cells2i G2
    have f2 := free_of_block G2
    obtain ⟨y0, y1⟩ := ret2i (A := X) (B := Y) G2
    have hbe := below_sets2 (below_trans' hbW hbW.size hb1) hw2 (.int .i64 X) (.int .i64 Y)
    clear hb1 hbW k0 k1 G2 g0 g1 g2
    go_wp2_with fail
    exact bodyPost_ret (v := .tuple #[.agg #[.int .i64 X, .int .i64 Y], .bool ok]) (by simp [results, Try.results8, go_sem, y0, y1]) rfl ⟨rfl, hbe⟩
  · have C : ∀ w, Calls Try.prog 13 #[.agg #[.int .i64 a, .int .i64 b], .agg #[.int .i64 c, .int .i64 d]] w fun e w' => e = .returned (.tuple #[.agg #[.int .i64 X, .int .i64 Y], .bool ok]) ∧ Below w.heap.size w w' := fun w => by rw [← hX]; exact mul56 a b c d w
    have C' := Lib.hid C
    clear C hX hx
    go_enter Try.func8, Try.ntmps8
    go_wp2_with fail
    generalize ((w.alloc (.cells #[.int .i64 a, .int .i64 b] 23)).alloc (.cells #[.int .i64 c, .int .i64 d] 23)).alloc (.cells #[.int .i64 0, .int .i64 0] 23) = W at *
    refine (C'.out W).mono ?_
    rintro e w1 ⟨rfl, hb1⟩
    have G2 := blk_below hb1 g2
    have x2 := cells2i G2
    have f2 := free_of_block G2
    obtain ⟨y0, y1⟩ := ret2i (A := X) (B := Y) G2
    have hbe := below_sets2 (below_trans' hbW hbW.size hb1) hw2 (.int .i64 X) (.int .i64 Y)
    clear hb1 hbW k0 k1 G2 g0 g1 g2
    go_wp2_with fail
    exact bodyPost_ret (v := .tuple #[.agg #[.int .i64 X, .int .i64 Y], .bool ok]) (by simp [results, Try.results8, go_sem, y0, y1]) rfl ⟨rfl, hbe⟩
  · have C : ∀ w, Calls Try.prog 19 #[.agg #[.int .i64 a, .int .i64 b], .agg #[.int .i64 c, .int .i64 d]] w fun e w' => e = .returned (.tuple #[.agg #[.int .i64 X, .int .i64 Y], .bool ok]) ∧ Below w.heap.size w w' := fun w => by rw [← hX]; exact div57 a b c d w
    have C' := Lib.hid C
    clear C hX hx
    go_enter Try.func8, Try.ntmps8
    go_wp2_with fail
    generalize ((w.alloc (.cells #[.int .i64 a, .int .i64 b] 23)).alloc (.cells #[.int .i64 c, .int .i64 d] 23)).alloc (.cells #[.int .i64 0, .int .i64 0] 23) = W at *
    refine (C'.out W).mono ?_
    rintro e w1 ⟨rfl, hb1⟩
    have G2 := blk_below hb1 g2
    have x2 := cells2i G2
    have f2 := free_of_block G2
    obtain ⟨y0, y1⟩ := ret2i (A := X) (B := Y) G2
    have hbe := below_sets2 (below_trans' hbW hbW.size hb1) hw2 (.int .i64 X) (.int .i64 Y)
    clear hb1 hbW k0 k1 G2 g0 g1 g2
    go_wp2_with fail
    exact bodyPost_ret (v := .tuple #[.agg #[.int .i64 X, .int .i64 Y], .bool ok]) (by simp [results, Try.results8, go_sem, y0, y1]) rfl ⟨rfl, hbe⟩
  · have C : ∀ w, Calls Try.prog 11 #[.agg #[.int .i64 a, .int .i64 b], .agg #[.int .i64 c, .int .i64 d]] w fun e w' => e = .returned (.tuple #[.agg #[.int .i64 X, .int .i64 Y], .bool ok]) ∧ Below w.heap.size w w' := fun w => by rw [← hX]; exact meet11 a b c d w
    have C' := Lib.hid C
    clear C hX hx
    go_enter Try.func8, Try.ntmps8
    go_wp2_with fail
    generalize ((w.alloc (.cells #[.int .i64 a, .int .i64 b] 23)).alloc (.cells #[.int .i64 c, .int .i64 d] 23)).alloc (.cells #[.int .i64 0, .int .i64 0] 23) = W at *
    refine (C'.out W).mono ?_
    rintro e w1 ⟨rfl, hb1⟩
    have G2 := blk_below hb1 g2
    have x2 := cells2i G2
    have f2 := free_of_block G2
    obtain ⟨y0, y1⟩ := ret2i (A := X) (B := Y) G2
    have hbe := below_sets2 (below_trans' hbW hbW.size hb1) hw2 (.int .i64 X) (.int .i64 Y)
    clear hb1 hbW k0 k1 G2 g0 g1 g2
    go_wp2_with fail
    exact bodyPost_ret (v := .tuple #[.agg #[.int .i64 X, .int .i64 Y], .bool ok]) (by simp [results, Try.results8, go_sem, y0, y1]) rfl ⟨rfl, hbe⟩
  · have C : ∀ w, Calls Try.prog 10 #[.agg #[.int .i64 a, .int .i64 b], .agg #[.int .i64 c, .int .i64 d]] w fun e w' => e = .returned (.tuple #[.agg #[.int .i64 X, .int .i64 Y], .bool ok]) ∧ Below w.heap.size w w' := fun w => by rw [← hX]; exact hull10 a b c d w
    have C' := Lib.hid C
    clear C hX hx
    go_enter Try.func8, Try.ntmps8
    go_wp2_with fail
    generalize ((w.alloc (.cells #[.int .i64 a, .int .i64 b] 23)).alloc (.cells #[.int .i64 c, .int .i64 d] 23)).alloc (.cells #[.int .i64 0, .int .i64 0] 23) = W at *
    refine (C'.out W).mono ?_
    rintro e w1 ⟨rfl, hb1⟩
    have G2 := blk_below hb1 g2
    have x2 := cells2i G2
    have f2 := free_of_block G2
    obtain ⟨y0, y1⟩ := ret2i (A := X) (B := Y) G2
    have hbe := below_sets2 (below_trans' hbW hbW.size hb1) hw2 (.int .i64 X) (.int .i64 Y)
    clear hb1 hbW k0 k1 G2 g0 g1 g2
    go_wp2_with fail
    exact bodyPost_ret (v := .tuple #[.agg #[.int .i64 X, .int .i64 Y], .bool ok]) (by simp [results, Try.results8, go_sem, y0, y1]) rfl ⟨rfl, hbe⟩
  · have C : ∀ w, Calls Try.prog 12 #[.agg #[.int .i64 a, .int .i64 b]] w fun e w' => e = .returned (.tuple #[.agg #[.int .i64 X, .int .i64 Y], .bool ok]) ∧ Below w.heap.size w w' := fun w => by rw [← hX]; exact sqrt12 a b w
    have C' := Lib.hid C
    clear C hX hx
    go_enter Try.func8, Try.ntmps8
    go_wp2_with fail
    generalize ((w.alloc (.cells #[.int .i64 a, .int .i64 b] 23)).alloc (.cells #[.int .i64 c, .int .i64 d] 23)).alloc (.cells #[.int .i64 0, .int .i64 0] 23) = W at *
    refine (C'.out W).mono ?_
    rintro e w1 ⟨rfl, hb1⟩
    have G2 := blk_below hb1 g2
    have x2 := cells2i G2
    have f2 := free_of_block G2
    obtain ⟨y0, y1⟩ := ret2i (A := X) (B := Y) G2
    have hbe := below_sets2 (below_trans' hbW hbW.size hb1) hw2 (.int .i64 X) (.int .i64 Y)
    clear hb1 hbW k0 k1 G2 g0 g1 g2
    go_wp2_with fail
    exact bodyPost_ret (v := .tuple #[.agg #[.int .i64 X, .int .i64 Y], .bool ok]) (by simp [results, Try.results8, go_sem, y0, y1]) rfl ⟨rfl, hbe⟩

set_option maxRecDepth 100000 in
set_option maxHeartbeats 4000000 in
theorem refer14 (i : Nat) (a b c d : Int) (w : World) (hi : i < 7) : Calls Try.prog 14 #[.int .i64 i, .agg #[.int .i64 a, .int .i64 b], .agg #[.int .i64 c, .int .i64 d]] w fun e w' => e = .returned (resV (opI i a b c d)) ∧ Below w.heap.size w w' := by
  obtain ⟨hbW, g0, g1, g2⟩ := allocs3 w (ivA a b) (ivA c d) #[.int .i64 0, .int .i64 0] 23 23 23
  unfold ivA at *
  have hw2 : w.heap.size ≤ w.heap.size + 1 + 1 := by omega
  have k0 := cells2i g0
  have k1 := cells2i g1
  obtain ⟨X, Y, ok, hX, -⟩ := res_parts (opI i a b c d)
  have hx : resV (opI i a b c d) = .tuple #[.agg #[.int .i64 X, .int .i64 Y], .bool ok] := hX
  rw [hX]
  rcases (by omega : i = 0 ∨ i = 1 ∨ i = 2 ∨ i = 3 ∨ i = 4 ∨ i = 5 ∨ i = 6) with rfl | rfl | rfl | rfl | rfl | rfl | rfl
  · have C : ∀ w, Calls Try.prog 25 #[.agg #[.int .i64 a, .int .i64 b], .agg #[.int .i64 c, .int .i64 d]] w fun e w' => e = .returned (.tuple #[.agg #[.int .i64 X, .int .i64 Y], .bool ok]) ∧ Below w.heap.size w w' := fun w => by rw [← hX]; exact add25 a b c d w
    have C' := Lib.hid C
    clear C hX hx
    go_enter Try.func14, Try.ntmps14
    go_wp2_with fail
    generalize ((w.alloc (.cells #[.int .i64 a, .int .i64 b] 23)).alloc (.cells #[.int .i64 c, .int .i64 d] 23)).alloc (.cells #[.int .i64 0, .int .i64 0] 23) = W at *
    refine (C'.out W).mono ?_
    rintro e w1 ⟨rfl, hb1⟩
    have G2 := blk_below hb1 g2
    have x2 := cells2i G2
    have f2 := free_of_block G2
    obtain ⟨y0, y1⟩ := ret2i (A := X) (B := Y) G2
    have hbe := below_sets2 (below_trans' hbW hbW.size hb1) hw2 (.int .i64 X) (.int .i64 Y)
    clear hb1 hbW k0 k1 G2 g0 g1 g2
    go_wp2_with fail
    exact bodyPost_ret (v := .tuple #[.agg #[.int .i64 X, .int .i64 Y], .bool ok]) (by simp [results, Try.results14, go_sem, y0, y1]) rfl ⟨rfl, hbe⟩
  · have C : ∀ w, Calls Try.prog 26 #[.agg #[.int .i64 a, .int .i64 b], .agg #[.int .i64 c, .int .i64 d]] w fun e w' => e = .returned (.tuple #[.agg #[.int .i64 X, .int .i64 Y], .bool ok]) ∧ Below w.heap.size w w' := fun w => by rw [← hX]; exact sub26 a b c d w
    have C' := Lib.hid C
    clear C hX hx
    go_enter Try.func14, Try.ntmps14
    go_wp2_with fail
    generalize ((w.alloc (.cells #[.int .i64 a, .int .i64 b] 23)).alloc (.cells #[.int .i64 c, .int .i64 d] 23)).alloc (.cells #[.int .i64 0, .int .i64 0] 23) = W at *
    refine (C'.out W).mono ?_
    rintro e w1 ⟨rfl, hb1⟩
    have G2 := blk_below hb1 g2
    have x2 := cells2i G2
    have f2 := free_of_block G2
    obtain ⟨y0, y1⟩ := ret2i (A := X) (B := Y) G2
    have hbe := below_sets2 (below_trans' hbW hbW.size hb1) hw2 (.int .i64 X) (.int .i64 Y)
    clear hb1 hbW k0 k1 G2 g0 g1 g2
    go_wp2_with fail
    exact bodyPost_ret (v := .tuple #[.agg #[.int .i64 X, .int .i64 Y], .bool ok]) (by simp [results, Try.results14, go_sem, y0, y1]) rfl ⟨rfl, hbe⟩
  · have C : ∀ w, Calls Try.prog 27 #[.agg #[.int .i64 a, .int .i64 b], .agg #[.int .i64 c, .int .i64 d]] w fun e w' => e = .returned (.tuple #[.agg #[.int .i64 X, .int .i64 Y], .bool ok]) ∧ Below w.heap.size w w' := fun w => by rw [← hX]; exact mul27 a b c d w
    have C' := Lib.hid C
    clear C hX hx
    go_enter Try.func14, Try.ntmps14
    go_wp2_with fail
    generalize ((w.alloc (.cells #[.int .i64 a, .int .i64 b] 23)).alloc (.cells #[.int .i64 c, .int .i64 d] 23)).alloc (.cells #[.int .i64 0, .int .i64 0] 23) = W at *
    refine (C'.out W).mono ?_
    rintro e w1 ⟨rfl, hb1⟩
    have G2 := blk_below hb1 g2
    have x2 := cells2i G2
    have f2 := free_of_block G2
    obtain ⟨y0, y1⟩ := ret2i (A := X) (B := Y) G2
    have hbe := below_sets2 (below_trans' hbW hbW.size hb1) hw2 (.int .i64 X) (.int .i64 Y)
    clear hb1 hbW k0 k1 G2 g0 g1 g2
    go_wp2_with fail
    exact bodyPost_ret (v := .tuple #[.agg #[.int .i64 X, .int .i64 Y], .bool ok]) (by simp [results, Try.results14, go_sem, y0, y1]) rfl ⟨rfl, hbe⟩
  · have C : ∀ w, Calls Try.prog 28 #[.agg #[.int .i64 a, .int .i64 b], .agg #[.int .i64 c, .int .i64 d]] w fun e w' => e = .returned (.tuple #[.agg #[.int .i64 X, .int .i64 Y], .bool ok]) ∧ Below w.heap.size w w' := fun w => by rw [← hX]; exact div28 a b c d w
    have C' := Lib.hid C
    clear C hX hx
    go_enter Try.func14, Try.ntmps14
    go_wp2_with fail
    generalize ((w.alloc (.cells #[.int .i64 a, .int .i64 b] 23)).alloc (.cells #[.int .i64 c, .int .i64 d] 23)).alloc (.cells #[.int .i64 0, .int .i64 0] 23) = W at *
    refine (C'.out W).mono ?_
    rintro e w1 ⟨rfl, hb1⟩
    have G2 := blk_below hb1 g2
    have x2 := cells2i G2
    have f2 := free_of_block G2
    obtain ⟨y0, y1⟩ := ret2i (A := X) (B := Y) G2
    have hbe := below_sets2 (below_trans' hbW hbW.size hb1) hw2 (.int .i64 X) (.int .i64 Y)
    clear hb1 hbW k0 k1 G2 g0 g1 g2
    go_wp2_with fail
    exact bodyPost_ret (v := .tuple #[.agg #[.int .i64 X, .int .i64 Y], .bool ok]) (by simp [results, Try.results14, go_sem, y0, y1]) rfl ⟨rfl, hbe⟩
  · have C : ∀ w, Calls Try.prog 29 #[.agg #[.int .i64 a, .int .i64 b], .agg #[.int .i64 c, .int .i64 d]] w fun e w' => e = .returned (.tuple #[.agg #[.int .i64 X, .int .i64 Y], .bool ok]) ∧ Below w.heap.size w w' := fun w => by rw [← hX]; exact meet29 a b c d w
    have C' := Lib.hid C
    clear C hX hx
    go_enter Try.func14, Try.ntmps14
    go_wp2_with fail
    generalize ((w.alloc (.cells #[.int .i64 a, .int .i64 b] 23)).alloc (.cells #[.int .i64 c, .int .i64 d] 23)).alloc (.cells #[.int .i64 0, .int .i64 0] 23) = W at *
    refine (C'.out W).mono ?_
    rintro e w1 ⟨rfl, hb1⟩
    have G2 := blk_below hb1 g2
    have x2 := cells2i G2
    have f2 := free_of_block G2
    obtain ⟨y0, y1⟩ := ret2i (A := X) (B := Y) G2
    have hbe := below_sets2 (below_trans' hbW hbW.size hb1) hw2 (.int .i64 X) (.int .i64 Y)
    clear hb1 hbW k0 k1 G2 g0 g1 g2
    go_wp2_with fail
    exact bodyPost_ret (v := .tuple #[.agg #[.int .i64 X, .int .i64 Y], .bool ok]) (by simp [results, Try.results14, go_sem, y0, y1]) rfl ⟨rfl, hbe⟩
  · have C : ∀ w, Calls Try.prog 30 #[.agg #[.int .i64 a, .int .i64 b], .agg #[.int .i64 c, .int .i64 d]] w fun e w' => e = .returned (.tuple #[.agg #[.int .i64 X, .int .i64 Y], .bool ok]) ∧ Below w.heap.size w w' := fun w => by rw [← hX]; exact hull30 a b c d w
    have C' := Lib.hid C
    clear C hX hx
    go_enter Try.func14, Try.ntmps14
    go_wp2_with fail
    generalize ((w.alloc (.cells #[.int .i64 a, .int .i64 b] 23)).alloc (.cells #[.int .i64 c, .int .i64 d] 23)).alloc (.cells #[.int .i64 0, .int .i64 0] 23) = W at *
    refine (C'.out W).mono ?_
    rintro e w1 ⟨rfl, hb1⟩
    have G2 := blk_below hb1 g2
    have x2 := cells2i G2
    have f2 := free_of_block G2
    obtain ⟨y0, y1⟩ := ret2i (A := X) (B := Y) G2
    have hbe := below_sets2 (below_trans' hbW hbW.size hb1) hw2 (.int .i64 X) (.int .i64 Y)
    clear hb1 hbW k0 k1 G2 g0 g1 g2
    go_wp2_with fail
    exact bodyPost_ret (v := .tuple #[.agg #[.int .i64 X, .int .i64 Y], .bool ok]) (by simp [results, Try.results14, go_sem, y0, y1]) rfl ⟨rfl, hbe⟩
  · have C : ∀ w, Calls Try.prog 31 #[.agg #[.int .i64 a, .int .i64 b]] w fun e w' => e = .returned (.tuple #[.agg #[.int .i64 X, .int .i64 Y], .bool ok]) ∧ Below w.heap.size w w' := fun w => by rw [← hX]; exact sqrt31 a b w
    have C' := Lib.hid C
    clear C hX hx
    go_enter Try.func14, Try.ntmps14
    go_wp2_with fail
    generalize ((w.alloc (.cells #[.int .i64 a, .int .i64 b] 23)).alloc (.cells #[.int .i64 c, .int .i64 d] 23)).alloc (.cells #[.int .i64 0, .int .i64 0] 23) = W at *
    refine (C'.out W).mono ?_
    rintro e w1 ⟨rfl, hb1⟩
    have G2 := blk_below hb1 g2
    have x2 := cells2i G2
    have f2 := free_of_block G2
    obtain ⟨y0, y1⟩ := ret2i (A := X) (B := Y) G2
    have hbe := below_sets2 (below_trans' hbW hbW.size hb1) hw2 (.int .i64 X) (.int .i64 Y)
    clear hb1 hbW k0 k1 G2 g0 g1 g2
    go_wp2_with fail
    exact bodyPost_ret (v := .tuple #[.agg #[.int .i64 X, .int .i64 Y], .bool ok]) (by simp [results, Try.results14, go_sem, y0, y1]) rfl ⟨rfl, hbe⟩

set_option maxRecDepth 100000 in
set_option maxHeartbeats 4000000 in
theorem agree7 (a b c d : Int) (w : World) : Calls Try.prog 7 #[.agg #[.int .i64 a, .int .i64 b], .agg #[.int .i64 c, .int .i64 d]] w fun e w' => e = .returned (.bool true) ∧ Below w.heap.size w w' := by
  obtain ⟨hbW, g0, g1⟩ := allocs2 w (ivA a b) (ivA c d) 23 23
  unfold ivA at *
  have O := Lib.hid (fun i w h => operate8 i a b c d w h)
  have F := Lib.hid (fun i w h => refer14 i a b c d w h)
  have k0 := cells2i g0
  have k1 := cells2i g1
  go_enter Try.func7, Try.ntmps7
  go_wp2_with fail
  generalize (w.alloc (.cells #[.int .i64 a, .int .i64 b] 23)).alloc (.cells #[.int .i64 c, .int .i64 d] 23) = W at *
  go_loopg [5, 6, 7, 8, 9] 8 (fun m i _ _ _ _ wr => ∃ k : Nat, k ≤ 7 ∧ m = 8 - k ∧ i = .int .i64 k ∧ Below W.heap.size W wr)
  case atStart => exact ⟨0, by omega, rfl, rfl, Below.refl _ _⟩
  case round =>
    obtain ⟨k, hk, hm, rfl, hbx⟩ := hrel
    have HM := Lib.hid hm
    clear hm k0 k1
    have k0 := cells2i (blk_below hbx g0)
    have k1 := cells2i (blk_below hbx g1)
    by_cases hk7 : k < 7
    · have hk7I : (k : Int) < 7 := by omega
      obtain ⟨X, Y, ok, hX, -⟩ := res_parts (opI k a b c d)
      have O1 := fun w => O.out k w (by omega)
      have F1 := fun w => F.out k w (by omega)
      rw [hX] at O1 F1
      have O2 := Lib.hid O1
      have F2 := Lib.hid F1
      clear O1 F1 hX
      go_wp2_with fail
      refine (O2.out _).mono ?_
      rintro e w1 ⟨rfl, hb1⟩
      have hst := below_trans' hb1 hb1.size ((Below.refl w1.heap.size w1).alloc (Nat.le_refl _) (.cells #[.int .i64 X, .int .i64 Y] 23))
      have t1 := heap_alloc_new w1 (.cells #[.int .i64 X, .int .i64 Y] 23)
      replace hbx := below_trans' hbx hbx.size hst
      clear k0 k1 hst hb1
      have k0 := cells2i (blk_below hbx g0)
      have k1 := cells2i (blk_below hbx g1)
      go_wp2_with fail
      generalize w1.alloc (.cells #[.int .i64 X, .int .i64 Y] 23) = v1 at *
      generalize w1.heap.size = N1 at *
      refine (F2.out _).mono ?_
      rintro e w2 ⟨rfl, hb1⟩
      have hst := below_trans' hb1 hb1.size ((Below.refl w2.heap.size w2).alloc (Nat.le_refl _) (.cells #[.int .i64 X, .int .i64 Y] 23))
      have m1 := cells2i (blk_below hst t1)
      have m2 := cells2i (heap_alloc_new w2 (.cells #[.int .i64 X, .int .i64 Y] 23))
      replace hbx := below_trans' hbx hbx.size hst
      clear k0 k1 hst hb1 t1
      go_wp2_with fail
      go_roundg (8 - (k + 1))
      case measure => have := HM.out; omega
      case rel => exact ⟨k + 1, by omega, rfl, by go_num, hbx⟩
    · have hk' : k = 7 := by omega
      subst hk'
      have hk7I : ¬ ((7 : Nat) : Int) < 7 := by omega
      have HS : Hid (∀ w', Below wr.heap.size wr w' → (w'.cell? ⟨w.heap.size, 0, none⟩ = some (.int .i64 a) ∧ w'.cell? ⟨w.heap.size, 1, none⟩ = some (.int .i64 b))) := Lib.hid fun w' h => cells2i (blk_below (below_trans' hbx hbx.size h) g0)
      have hbd : Below wr.heap.size wr wr.drew := (Below.refl _ _).drew
      have s0 := HS.out _ hbd
      have V1 := Lib.hid (valid15 a b)
      have V2 := Lib.hid (valid16 a b)
      clear k0 k1
      go_upto_region 8 with fail
      go_region_held3 (fun w' => w'.cell? ⟨w.heap.size, 0, none⟩ = some (.int .i64 a) ∧ w'.cell? ⟨w.heap.size, 1, none⟩ = some (.int .i64 b))
        (first | with_reducible exact s0 | with_reducible exact s1 | with_reducible exact s2)
        (first
          | (go_at_call 15; (with_reducible refine (V1.out _).mono ?_); rintro e x1 ⟨rfl, hx1⟩; have hX1 := below_trans' hbd hbd.size hx1; have s1 := HS.out _ hX1)
          | (go_at_call 16; (with_reducible refine (V2.out _).mono ?_); rintro e x2 ⟨rfl, hx2⟩; have hX2 := below_trans' hX1 hX1.size hx2; have s2 := HS.out _ hX2))
      all_goals
        have hbe := below_trans' hbW hbW.size (below_trans' hbx hbx.size hX2)
        clear s0 s1 s2
        go_wp2_with fail
        go_ret
        exact ⟨rfl, hbe⟩
end Go.Proofs.Ytpligjkbnlfhgaa
