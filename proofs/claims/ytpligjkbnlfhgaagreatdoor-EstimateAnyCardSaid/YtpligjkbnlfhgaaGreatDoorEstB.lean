/- Mean, Of, Covariance, Ratio where the lists do not fit. No statement is proved here. -/
import Derived.Test.YtpligjkbnlfhgaaGreatDoorEstR
namespace Go.Proofs.YtpligjkbnlfhgaaGreatDoor
open Go.RowKit

theorem no_one {l n : Nat} {f : Nat → Int} (h : ¬ (l ≤ n ∧ Fit f n)) : fitsB l 1 (fun _ => n) (fun _ => f) = false := by
  rw [Bool.eq_false_iff]; exact fun e => h (fits_one.1 e)
theorem no_two {l n m : Nat} {f g : Nat → Int} (h : ¬ (m = n ∧ l ≤ n ∧ Fit f n ∧ Fit g n)) : fitsB l 2 (fun j => if j = 0 then n else m) (fun j => if j = 0 then f else g) = false := by
  rw [Bool.eq_false_iff]; exact fun e => h (fits_two.1 e)

set_option maxRecDepth 100000 in
set_option maxHeartbeats 4000000 in
theorem mean44_bad (A : Option Addr) (n c : Nat) (f : Nat → Int) (w : World) (hl : IntsV w A n c f) (hbad : ¬ (1 ≤ n ∧ Fit f n)) :
    Calls Tryz.prog 15 #[.slice A n c] w fun e w' => e = .returned (.tuple #[.agg #[.string ⟨#[]⟩, .string ⟨#[]⟩], .bool false]) ∧ Below w.heap.size w w' := by
  obtain ⟨hbW, g0, g1⟩ := allocs2' w #[.string ⟨#[]⟩, .string ⟨#[]⟩] #[.slice A n c] 26 31
  have hl1 := hl.below hbW
  have hC := fits85 1 1 1 _ _ _ _ _ _ (by decide) (by decide) (by decide) (rdl_one g1 hl1.rd hl1.le hl1.max)
  rw [no_one hbad] at hC
  have HC := Lib.hid hC
  clear hC hl1 hl
  go_enter Tryz.func15, Tryz.ntmps15
  go_wp2_with fail
  generalize (w.alloc (.cells #[.string ⟨#[]⟩, .string ⟨#[]⟩] 26)).alloc (.cells #[.slice A n c] 31) = W at *
  refine HC.out.mono ?_
  rintro e w' ⟨rfl, rfl⟩
  have z0 := free_of_block g0
  have z1 := cells2 g0
  obtain ⟨y0, y1⟩ := ret2 (A := ⟨#[]⟩) (B := ⟨#[]⟩) g0
  have hbe := below_sets2 hbW (Nat.le_refl _) (.string ⟨#[]⟩) (.string ⟨#[]⟩)
  clear hbW
  go_wp2_with fail
  exact bodyPost_ret (v := .tuple #[.agg #[.string ⟨#[]⟩, .string ⟨#[]⟩], .bool false]) (by simp [results, Tryz.results15, go_sem, y0, y1]) rfl ⟨rfl, hbe⟩

set_option maxRecDepth 100000 in
set_option maxHeartbeats 4000000 in
theorem of36_bad (A : Option Addr) (n c : Nat) (f : Nat → Int) (w : World) (hl : IntsV w A n c f) (hbad : ¬ (2 ≤ n ∧ Fit f n)) :
    Calls Tryz.prog 24 #[.slice A n c] w fun e w' => e = .returned (.tuple #[estV 0 ⟨#[]⟩ ⟨#[]⟩ ⟨#[]⟩ ⟨#[]⟩, .bool false]) ∧ Below w.heap.size w w' := by
  obtain ⟨hbW, g0, g1⟩ := allocs2' w #[.int .i64 0, .string ⟨#[]⟩, .string ⟨#[]⟩, .string ⟨#[]⟩, .string ⟨#[]⟩] #[.slice A n c] 28 31
  have hl1 := hl.below hbW
  have hC := fits85 2 1 1 _ _ _ _ _ _ (by decide) (by decide) (by decide) (rdl_one g1 hl1.rd hl1.le hl1.max)
  rw [no_one hbad] at hC
  have HC := Lib.hid hC
  clear hC hl1 hl
  go_enter Tryz.func24, Tryz.ntmps24
  go_wp2_with fail
  generalize (w.alloc (.cells #[.int .i64 0, .string ⟨#[]⟩, .string ⟨#[]⟩, .string ⟨#[]⟩, .string ⟨#[]⟩] 28)).alloc (.cells #[.slice A n c] 31) = W at *
  refine HC.out.mono ?_
  rintro e w' ⟨rfl, rfl⟩
  have z0 := free_of_block g0
  have z1 := cells5 g0
  obtain ⟨y0, y1, y2, y3, y4⟩ := cells5 (set5 g0 (.int .i64 0) (.string ⟨#[]⟩) (.string ⟨#[]⟩) (.string ⟨#[]⟩) (.string ⟨#[]⟩))
  have hbe := below_sets5 hbW (Nat.le_refl _) (.int .i64 0) (.string ⟨#[]⟩) (.string ⟨#[]⟩) (.string ⟨#[]⟩) (.string ⟨#[]⟩)
  clear hbW
  go_wp2_with fail
  exact bodyPost_ret (v := .tuple #[estV 0 ⟨#[]⟩ ⟨#[]⟩ ⟨#[]⟩ ⟨#[]⟩, .bool false]) (by simp [results, Tryz.results24, go_sem, y0, y1, y2, y3, y4]) rfl ⟨rfl, hbe⟩

set_option maxRecDepth 100000 in
set_option maxHeartbeats 4000000 in
theorem covariance43_bad (A B : Option Addr) (n m ca cb : Nat) (f g : Nat → Int) (w : World) (hl : IntsV w A n ca f) (hm : IntsV w B m cb g) (hbad : ¬ (m = n ∧ 2 ≤ n ∧ Fit f n ∧ Fit g n)) :
    Calls Tryz.prog 17 #[.slice A n ca, .slice B m cb] w fun e w' => e = .returned (.tuple #[.agg #[.string ⟨#[]⟩, .string ⟨#[]⟩], .bool false]) ∧ Below w.heap.size w w' := by
  obtain ⟨hbW, g0, g1⟩ := allocs2' w #[.string ⟨#[]⟩, .string ⟨#[]⟩] #[.slice A n ca, .slice B m cb] 26 31
  have hl1 := hl.below hbW
  have hm1 := hm.below hbW
  have hC := fits85 2 2 2 _ _ _ _ _ _ (by decide) (by decide) (by decide) (rdl_two g1 hl1.rd hm1.rd hl1.le hl1.max hm1.le hm1.max)
  rw [no_two hbad] at hC
  have HC := Lib.hid hC
  clear hC hl1 hm1 hl hm
  go_enter Tryz.func17, Tryz.ntmps17
  go_wp2_with fail
  generalize (w.alloc (.cells #[.string ⟨#[]⟩, .string ⟨#[]⟩] 26)).alloc (.cells #[.slice A n ca, .slice B m cb] 31) = W at *
  refine HC.out.mono ?_
  rintro e w' ⟨rfl, rfl⟩
  have z0 := free_of_block g0
  have z1 := cells2 g0
  obtain ⟨y0, y1⟩ := ret2 (A := ⟨#[]⟩) (B := ⟨#[]⟩) g0
  have hbe := below_sets2 hbW (Nat.le_refl _) (.string ⟨#[]⟩) (.string ⟨#[]⟩)
  clear hbW
  go_wp2_with fail
  exact bodyPost_ret (v := .tuple #[.agg #[.string ⟨#[]⟩, .string ⟨#[]⟩], .bool false]) (by simp [results, Tryz.results17, go_sem, y0, y1]) rfl ⟨rfl, hbe⟩

set_option maxRecDepth 100000 in
set_option maxHeartbeats 4000000 in
theorem ratio45_bad (A B : Option Addr) (n m ca cb : Nat) (f g : Nat → Int) (w : World) (hl : IntsV w A n ca f) (hm : IntsV w B m cb g) (hbad : ¬ (m = n ∧ 2 ≤ n ∧ Fit f n ∧ Fit g n)) :
    Calls Tryz.prog 19 #[.slice A n ca, .slice B m cb] w fun e w' => e = .returned (.tuple #[estV 0 ⟨#[]⟩ ⟨#[]⟩ ⟨#[]⟩ ⟨#[]⟩, .bool false]) ∧ Below w.heap.size w w' := by
  obtain ⟨hbW, g0, g1⟩ := allocs2' w #[.int .i64 0, .string ⟨#[]⟩, .string ⟨#[]⟩, .string ⟨#[]⟩, .string ⟨#[]⟩] #[.slice A n ca, .slice B m cb] 28 31
  have hl1 := hl.below hbW
  have hm1 := hm.below hbW
  have hC := fits85 2 2 2 _ _ _ _ _ _ (by decide) (by decide) (by decide) (rdl_two g1 hl1.rd hm1.rd hl1.le hl1.max hm1.le hm1.max)
  rw [no_two hbad] at hC
  have HC := Lib.hid hC
  clear hC hl1 hm1 hl hm
  go_enter Tryz.func19, Tryz.ntmps19
  go_wp2_with fail
  generalize (w.alloc (.cells #[.int .i64 0, .string ⟨#[]⟩, .string ⟨#[]⟩, .string ⟨#[]⟩, .string ⟨#[]⟩] 28)).alloc (.cells #[.slice A n ca, .slice B m cb] 31) = W at *
  refine HC.out.mono ?_
  rintro e w' ⟨rfl, rfl⟩
  have z0 := free_of_block g0
  have z1 := cells5 g0
  obtain ⟨y0, y1, y2, y3, y4⟩ := cells5 (set5 g0 (.int .i64 0) (.string ⟨#[]⟩) (.string ⟨#[]⟩) (.string ⟨#[]⟩) (.string ⟨#[]⟩))
  have hbe := below_sets5 hbW (Nat.le_refl _) (.int .i64 0) (.string ⟨#[]⟩) (.string ⟨#[]⟩) (.string ⟨#[]⟩) (.string ⟨#[]⟩)
  clear hbW
  go_wp2_with fail
  exact bodyPost_ret (v := .tuple #[estV 0 ⟨#[]⟩ ⟨#[]⟩ ⟨#[]⟩ ⟨#[]⟩, .bool false]) (by simp [results, Tryz.results19, go_sem, y0, y1, y2, y3, y4]) rfl ⟨rfl, hbe⟩
end Go.Proofs.YtpligjkbnlfhgaaGreatDoor
