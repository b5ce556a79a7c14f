/- Where Ratio and Adjusted of chapter 38 hand back false: reference and program. No statement is proved here. -/
import Derived.Test.YtpligjkbnlfhgaaGreatDoorEr6
namespace Go.Proofs.YtpligjkbnlfhgaaGreatDoor
open Go.RowKit

set_option maxRecDepth 100000 in
set_option maxHeartbeats 8000000 in
theorem ratio20_bad (A B : Option Addr) (n m ca cb : Nat) (f g : Nat → Int) (w : World) (hl : IntsV w A n ca f) (hm : IntsV w B m cb g) (hbad : ¬ (m = n ∧ 2 ≤ n ∧ Fit f n ∧ Fit g n)) :
    Calls Tryz.prog 20 #[.slice A n ca, .slice B m cb] w fun e w' => e = .returned (.tuple #[estV 0 ⟨#[]⟩ ⟨#[]⟩ ⟨#[]⟩ ⟨#[]⟩, .bool false]) ∧ Below w.heap.size w w' := by
  have g0 := heap_alloc_new w (.cells #[.int .i64 0, .string ⟨#[]⟩, .string ⟨#[]⟩, .string ⟨#[]⟩, .string ⟨#[]⟩] 28)
  have hbW := below_alloc w #[.int .i64 0, .string ⟨#[]⟩, .string ⟨#[]⟩, .string ⟨#[]⟩, .string ⟨#[]⟩] 28
  have hl1 := hl.below hbW
  have hm1 := hm.below hbW
  obtain ⟨o, ho⟩ := fit_or f n
  obtain ⟨o', ho'⟩ := fit_or g m
  have HO := Lib.hid ho
  have HO' := Lib.hid ho'
  have z0 := free_of_block g0
  have z1 := cells5 g0
  obtain ⟨y0, y1, y2, y3, y4⟩ := cells5 (set5 g0 (.int .i64 0) (.string ⟨#[]⟩) (.string ⟨#[]⟩) (.string ⟨#[]⟩) (.string ⟨#[]⟩))
  have hbe := below_sets5 hbW (Nat.le_refl _) (.int .i64 0) (.string ⟨#[]⟩) (.string ⟨#[]⟩) (.string ⟨#[]⟩) (.string ⟨#[]⟩)
  have HB := Lib.hid hbad
  clear hbW hl hm hbad ho ho'
  cases o with
  | false =>
    go_enter Tryz.func20, Tryz.ntmps20
    go_wp2_with fail
    generalize w.alloc (.cells #[.int .i64 0, .string ⟨#[]⟩, .string ⟨#[]⟩, .string ⟨#[]⟩, .string ⟨#[]⟩] 28) = W at *
    refine (fits_at HO.out hl1).mono ?_
    rintro e w' ⟨rfl, rfl⟩
    go_wp2_with fail
    exact bodyPost_ret (v := .tuple #[estV 0 ⟨#[]⟩ ⟨#[]⟩ ⟨#[]⟩ ⟨#[]⟩, .bool false]) (by simp [results, Tryz.results20, go_sem, y0, y1, y2, y3, y4]) rfl ⟨rfl, hbe⟩
  | true =>
    cases o' with
    | false =>
      go_enter Tryz.func20, Tryz.ntmps20
      go_wp2_with fail
      generalize w.alloc (.cells #[.int .i64 0, .string ⟨#[]⟩, .string ⟨#[]⟩, .string ⟨#[]⟩, .string ⟨#[]⟩] 28) = W at *
      refine (fits_at HO.out hl1).mono ?_
      rintro e w' ⟨rfl, rfl⟩
      go_wp2_with fail
      refine (fits_at HO'.out hm1).mono ?_
      rintro e w' ⟨rfl, rfl⟩
      go_wp2_with fail
      exact bodyPost_ret (v := .tuple #[estV 0 ⟨#[]⟩ ⟨#[]⟩ ⟨#[]⟩ ⟨#[]⟩, .bool false]) (by simp [results, Tryz.results20, go_sem, y0, y1, y2, y3, y4]) rfl ⟨rfl, hbe⟩
    | true =>
      by_cases hne : m = n
      · subst hne
        have hn2 : (m : Int) < 2 := by
          have : ¬ 2 ≤ m := fun h => HB.out ⟨rfl, h, HO.out.out.1 rfl, HO'.out.out.1 rfl⟩
          omega
        go_enter Tryz.func20, Tryz.ntmps20
        go_wp2_with fail
        generalize w.alloc (.cells #[.int .i64 0, .string ⟨#[]⟩, .string ⟨#[]⟩, .string ⟨#[]⟩, .string ⟨#[]⟩] 28) = W at *
        refine (fits_at HO.out hl1).mono ?_
        rintro e w' ⟨rfl, rfl⟩
        go_wp2_with fail
        refine (fits_at HO'.out hm1).mono ?_
        rintro e w' ⟨rfl, rfl⟩
        go_wp2_with fail
        exact bodyPost_ret (v := .tuple #[estV 0 ⟨#[]⟩ ⟨#[]⟩ ⟨#[]⟩ ⟨#[]⟩, .bool false]) (by simp [results, Tryz.results20, go_sem, y0, y1, y2, y3, y4]) rfl ⟨rfl, hbe⟩
      · have hnf : ¬ (n : Int) = (m : Int) := by omega
        clear hne
        go_enter Tryz.func20, Tryz.ntmps20
        go_wp2_with fail
        generalize w.alloc (.cells #[.int .i64 0, .string ⟨#[]⟩, .string ⟨#[]⟩, .string ⟨#[]⟩, .string ⟨#[]⟩] 28) = W at *
        refine (fits_at HO.out hl1).mono ?_
        rintro e w' ⟨rfl, rfl⟩
        go_wp2_with fail
        refine (fits_at HO'.out hm1).mono ?_
        rintro e w' ⟨rfl, rfl⟩
        go_wp2_with fail
        exact bodyPost_ret (v := .tuple #[estV 0 ⟨#[]⟩ ⟨#[]⟩ ⟨#[]⟩ ⟨#[]⟩, .bool false]) (by simp [results, Tryz.results20, go_sem, y0, y1, y2, y3, y4]) rfl ⟨rfl, hbe⟩

set_option maxRecDepth 100000 in
set_option maxHeartbeats 8000000 in
theorem ratio20_zero (A B : Option Addr) (n ca cb : Nat) (f g : Nat → Int) (w : World) (hl : IntsV w A n ca f) (hm : IntsV w B n cb g) (h2 : 2 ≤ n) (hf : Fit f n) (hg : Fit g n) (h0 : sumF g n = 0) :
    Calls Tryz.prog 20 #[.slice A n ca, .slice B n cb] w fun e w' => e = .returned (.tuple #[estV 0 ⟨#[]⟩ ⟨#[]⟩ ⟨#[]⟩ ⟨#[]⟩, .bool false]) ∧ Below w.heap.size w w' := by
  have g0 := heap_alloc_new w (.cells #[.int .i64 0, .string ⟨#[]⟩, .string ⟨#[]⟩, .string ⟨#[]⟩, .string ⟨#[]⟩] 28)
  have hbW := below_alloc w #[.int .i64 0, .string ⟨#[]⟩, .string ⟨#[]⟩, .string ⟨#[]⟩, .string ⟨#[]⟩] 28
  have hl1 := hl.below hbW
  have hm1 := hm.below hbW
  have HO := Lib.hid (show FitB true f n from ⟨⟨fun _ => hf, fun _ => rfl⟩⟩)
  have HO' := Lib.hid (show FitB true g n from ⟨⟨fun _ => hg, fun _ => rfl⟩⟩)
  have HG := Lib.hid hg
  have hn2 : (2 : Int) ≤ n := by omega
  have z0 := free_of_block g0
  have z1 := cells5 g0
  obtain ⟨y0, y1, y2, y3, y4⟩ := cells5 (set5 g0 (.int .i64 0) (.string ⟨#[]⟩) (.string ⟨#[]⟩) (.string ⟨#[]⟩) (.string ⟨#[]⟩))
  have hbe := below_sets5 hbW (Nat.le_refl _) (.int .i64 0) (.string ⟨#[]⟩) (.string ⟨#[]⟩) (.string ⟨#[]⟩) (.string ⟨#[]⟩)
  clear hbW hl hm hf hg
  go_enter Tryz.func20, Tryz.ntmps20
  go_wp2_with fail
  generalize w.alloc (.cells #[.int .i64 0, .string ⟨#[]⟩, .string ⟨#[]⟩, .string ⟨#[]⟩, .string ⟨#[]⟩] 28) = W at *
  refine (fits_at HO.out hl1).mono ?_
  rintro e w' ⟨rfl, rfl⟩
  go_wp2_with fail
  refine (fits_at HO'.out hm1).mono ?_
  rintro e w' ⟨rfl, rfl⟩
  go_wp2_with fail
  refine (sum63 _ n cb g _ hm1.rd HG.out).mono ?_
  rintro e w' ⟨rfl, rfl⟩
  rw [h0]
  go_wp2_with fail
  exact bodyPost_ret (v := .tuple #[estV 0 ⟨#[]⟩ ⟨#[]⟩ ⟨#[]⟩ ⟨#[]⟩, .bool false]) (by simp [results, Tryz.results20, go_sem, y0, y1, y2, y3, y4]) rfl ⟨rfl, hbe⟩

set_option maxRecDepth 100000 in
set_option maxHeartbeats 8000000 in
theorem ratio45_zero (A B : Option Addr) (n ca cb : Nat) (f g : Nat → Int) (w : World) (hl : IntsV w A n ca f) (hm : IntsV w B n cb g) (h2 : 2 ≤ n) (hf : Fit f n) (hg : Fit g n) (h0 : sumF g n = 0) :
    Calls Tryz.prog 19 #[.slice A n ca, .slice B n cb] w fun e w' => e = .returned (.tuple #[estV 0 ⟨#[]⟩ ⟨#[]⟩ ⟨#[]⟩ ⟨#[]⟩, .bool false]) ∧ Below w.heap.size w w' := by
  obtain ⟨hbW, g0, g1⟩ := allocs2' w #[.int .i64 0, .string ⟨#[]⟩, .string ⟨#[]⟩, .string ⟨#[]⟩, .string ⟨#[]⟩] #[.slice A n ca, .slice B n cb] 28 31
  have hl1 := hl.below hbW
  have hm1 := hm.below hbW
  have hC := fits85 2 2 2 _ _ _ _ _ _ (by decide) (by decide) (by decide) (rdl_two g1 hl1.rd hm1.rd hl1.le hl1.max hm1.le hm1.max)
  rw [fits_two.2 ⟨rfl, h2, hf, hg⟩] at hC
  have HC := Lib.hid hC
  have HG := Lib.hid hg
  clear hC hl1 hl hm hf hg
  go_enter Tryz.func19, Tryz.ntmps19
  go_wp2_with fail
  generalize (w.alloc (.cells #[.int .i64 0, .string ⟨#[]⟩, .string ⟨#[]⟩, .string ⟨#[]⟩, .string ⟨#[]⟩] 28)).alloc (.cells #[.slice A n ca, .slice B n cb] 31) = W at *
  refine HC.out.mono ?_
  rintro e w' ⟨rfl, rfl⟩
  have z0 := free_of_block g0
  have z1 := cells5 g0
  obtain ⟨y0, y1, y2, y3, y4⟩ := cells5 (set5 g0 (.int .i64 0) (.string ⟨#[]⟩) (.string ⟨#[]⟩) (.string ⟨#[]⟩) (.string ⟨#[]⟩))
  have hbe := below_sets5 hbW (Nat.le_refl _) (.int .i64 0) (.string ⟨#[]⟩) (.string ⟨#[]⟩) (.string ⟨#[]⟩) (.string ⟨#[]⟩)
  clear hbW
  go_wp2_with fail
  refine (total88 _ n cb g _ hm1.rd HG.out).mono ?_
  rintro e w' ⟨rfl, rfl⟩
  rw [h0]
  go_wp2_with fail
  exact bodyPost_ret (v := .tuple #[estV 0 ⟨#[]⟩ ⟨#[]⟩ ⟨#[]⟩ ⟨#[]⟩, .bool false]) (by simp [results, Tryz.results19, go_sem, y0, y1, y2, y3, y4]) rfl ⟨rfl, hbe⟩

/-- A covariate's center that may be used. -/
def cenOk (C1 C2 : ByteArray) : Prop := (rdR (C1.data.toList, C2.data.toList)).isSome = true ∧ C1.size ≤ 50 ∧ C2.size ≤ 50
theorem fitT {f : Nat → Int} {n : Nat} (h : Fit f n) : FitB true f n := ⟨⟨fun _ => h, fun _ => rfl⟩⟩

set_option maxRecDepth 100000 in
set_option maxHeartbeats 8000000 in
theorem adj46_bad1 (A B : Option Addr) (n m ca cb : Nat) (f g : Nat → Int) (C1 C2 : ByteArray) (w : World) (hl : IntsV w A n ca f) (hm : IntsV w B m cb g) (hC1 : C1.size ≤ maxLen) (hC2 : C2.size ≤ maxLen) (hbad : ¬ (m = n ∧ 2 ≤ n ∧ Fit f n ∧ Fit g n)) :
    Calls Tryz.prog 21 #[.slice A n ca, .slice B m cb, .agg #[.string C1, .string C2]] w fun e w' => e = .returned (.tuple #[estV 0 ⟨#[]⟩ ⟨#[]⟩ ⟨#[]⟩ ⟨#[]⟩, .bool false]) ∧ Below w.heap.size w w' := by
  obtain ⟨hbW, g0, g1, g2⟩ := allocs3 w #[.string C1, .string C2] #[.int .i64 0, .string ⟨#[]⟩, .string ⟨#[]⟩, .string ⟨#[]⟩, .string ⟨#[]⟩] #[.slice A n ca, .slice B m cb] 26 28 31
  have hl1 := hl.below hbW
  have hm1 := hm.below hbW
  have hC := fits85 2 2 2 _ _ _ _ _ _ (by decide) (by decide) (by decide) (rdl_two g2 hl1.rd hm1.rd hl1.le hl1.max hm1.le hm1.max)
  rw [no_two hbad] at hC
  have HC := Lib.hid hC
  have hv := fun w => valid23 C1 C2 w hC1 hC2
  rw [← (rd_form (N := C1.data.toList) (D := C2.data.toList)).1] at hv
  have HV := Lib.hid hv
  have k0 := cells2 g0
  clear hC hv g2 hl1 hm1 hl hm hC1 hC2
  go_enter Tryz.func21, Tryz.ntmps21
  go_wp2_with fail
  generalize ((w.alloc (.cells #[.string C1, .string C2] 26)).alloc (.cells #[.int .i64 0, .string ⟨#[]⟩, .string ⟨#[]⟩, .string ⟨#[]⟩, .string ⟨#[]⟩] 28)).alloc (.cells #[.slice A n ca, .slice B m cb] 31) = W at *
  refine HC.out.mono ?_
  rintro e w' ⟨rfl, rfl⟩
  have z0 := free_of_block g1
  have z1 := cells5 g1
  obtain ⟨y0, y1, y2, y3, y4⟩ := cells5 (set5 g1 (.int .i64 0) (.string ⟨#[]⟩) (.string ⟨#[]⟩) (.string ⟨#[]⟩) (.string ⟨#[]⟩))
  have hbe := below_sets5 hbW (show w.heap.size ≤ w.heap.size + 1 by omega) (.int .i64 0) (.string ⟨#[]⟩) (.string ⟨#[]⟩) (.string ⟨#[]⟩) (.string ⟨#[]⟩)
  clear hbW HV
  go_wp2_with fail
  exact bodyPost_ret (v := .tuple #[estV 0 ⟨#[]⟩ ⟨#[]⟩ ⟨#[]⟩ ⟨#[]⟩, .bool false]) (by simp [results, Tryz.results21, go_sem, y0, y1, y2, y3, y4]) rfl ⟨rfl, hbe⟩

set_option maxRecDepth 100000 in
set_option maxHeartbeats 8000000 in
theorem adj46_bad2 (A B : Option Addr) (n m ca cb : Nat) (f g : Nat → Int) (C1 C2 : ByteArray) (w : World) (hl : IntsV w A n ca f) (hm : IntsV w B m cb g) (hC1 : C1.size ≤ maxLen) (hC2 : C2.size ≤ maxLen) (hok : m = n ∧ 2 ≤ n ∧ Fit f n ∧ Fit g n) (hb : (rdR (C1.data.toList, C2.data.toList)).isSome = false) :
    Calls Tryz.prog 21 #[.slice A n ca, .slice B m cb, .agg #[.string C1, .string C2]] w fun e w' => e = .returned (.tuple #[estV 0 ⟨#[]⟩ ⟨#[]⟩ ⟨#[]⟩ ⟨#[]⟩, .bool false]) ∧ Below w.heap.size w w' := by
  obtain ⟨hbW, g0, g1, g2⟩ := allocs3 w #[.string C1, .string C2] #[.int .i64 0, .string ⟨#[]⟩, .string ⟨#[]⟩, .string ⟨#[]⟩, .string ⟨#[]⟩] #[.slice A n ca, .slice B m cb] 26 28 31
  have hl1 := hl.below hbW
  have hm1 := hm.below hbW
  have hC := fits85 2 2 2 _ _ _ _ _ _ (by decide) (by decide) (by decide) (rdl_two g2 hl1.rd hm1.rd hl1.le hl1.max hm1.le hm1.max)
  rw [fits_two.2 ⟨hok.1, hok.2.1, hok.2.2.1, hok.2.2.2⟩] at hC
  have HC := Lib.hid hC
  clear hok
  have hv := fun w => valid23 C1 C2 w hC1 hC2
  rw [← (rd_form (N := C1.data.toList) (D := C2.data.toList)).1, hb] at hv
  have HV := Lib.hid hv
  have k0 := cells2 g0
  clear hC hv g2 hl1 hm1 hl hm hC1 hC2
  go_enter Tryz.func21, Tryz.ntmps21
  go_wp2_with fail
  refine HC.out.mono ?_
  rintro e w' ⟨rfl, rfl⟩
  go_wp2_with fail
  generalize ((w.alloc (.cells #[.string C1, .string C2] 26)).alloc (.cells #[.int .i64 0, .string ⟨#[]⟩, .string ⟨#[]⟩, .string ⟨#[]⟩, .string ⟨#[]⟩] 28)).alloc (.cells #[.slice A n ca, .slice B m cb] 31) = W at *
  refine (HV.out W).mono ?_
  rintro e w1 ⟨rfl, b1⟩
  replace k0 := cells2 (blk_below b1 g0)
  replace g1 := blk_below b1 g1
  replace hbW := below_trans' hbW hbW.size b1
  clear g0
  have z0 := free_of_block g1
  have z1 := cells5 g1
  obtain ⟨y0, y1, y2, y3, y4⟩ := cells5 (set5 g1 (.int .i64 0) (.string ⟨#[]⟩) (.string ⟨#[]⟩) (.string ⟨#[]⟩) (.string ⟨#[]⟩))
  have hbe := below_sets5 hbW (show w.heap.size ≤ w.heap.size + 1 by omega) (.int .i64 0) (.string ⟨#[]⟩) (.string ⟨#[]⟩) (.string ⟨#[]⟩) (.string ⟨#[]⟩)
  clear hbW HV
  go_wp2_with fail
  exact bodyPost_ret (v := .tuple #[estV 0 ⟨#[]⟩ ⟨#[]⟩ ⟨#[]⟩ ⟨#[]⟩, .bool false]) (by simp [results, Tryz.results21, go_sem, y0, y1, y2, y3, y4]) rfl ⟨rfl, hbe⟩

set_option maxRecDepth 100000 in
set_option maxHeartbeats 8000000 in
theorem adj46_bad3 (A B : Option Addr) (n m ca cb : Nat) (f g : Nat → Int) (C1 C2 : ByteArray) (w : World) (hl : IntsV w A n ca f) (hm : IntsV w B m cb g) (hC1 : C1.size ≤ maxLen) (hC2 : C2.size ≤ maxLen) (hok : m = n ∧ 2 ≤ n ∧ Fit f n ∧ Fit g n) (hb : (rdR (C1.data.toList, C2.data.toList)).isSome = true) (hlong : 50 < C1.size ∨ 50 < C2.size) :
    Calls Tryz.prog 21 #[.slice A n ca, .slice B m cb, .agg #[.string C1, .string C2]] w fun e w' => e = .returned (.tuple #[estV 0 ⟨#[]⟩ ⟨#[]⟩ ⟨#[]⟩ ⟨#[]⟩, .bool false]) ∧ Below w.heap.size w w' := by
  obtain ⟨hbW, g0, g1, g2⟩ := allocs3 w #[.string C1, .string C2] #[.int .i64 0, .string ⟨#[]⟩, .string ⟨#[]⟩, .string ⟨#[]⟩, .string ⟨#[]⟩] #[.slice A n ca, .slice B m cb] 26 28 31
  have hl1 := hl.below hbW
  have hm1 := hm.below hbW
  have hC := fits85 2 2 2 _ _ _ _ _ _ (by decide) (by decide) (by decide) (rdl_two g2 hl1.rd hm1.rd hl1.le hl1.max hm1.le hm1.max)
  rw [fits_two.2 ⟨hok.1, hok.2.1, hok.2.2.1, hok.2.2.2⟩] at hC
  have HC := Lib.hid hC
  clear hok
  have hv := fun w => valid23 C1 C2 w hC1 hC2
  rw [← (rd_form (N := C1.data.toList) (D := C2.data.toList)).1, hb] at hv
  have HV := Lib.hid hv
  have k0 := cells2 g0
  have hmx : decide ((50 : Int) < max (C1.size : Int) (C2.size : Int)) = true := decide_eq_true (by omega)
  clear hlong
  clear hC hv g2 hl1 hm1 hl hm hC1 hC2
  go_enter Tryz.func21, Tryz.ntmps21
  go_wp2_with fail
  refine HC.out.mono ?_
  rintro e w' ⟨rfl, rfl⟩
  go_wp2_with fail
  generalize ((w.alloc (.cells #[.string C1, .string C2] 26)).alloc (.cells #[.int .i64 0, .string ⟨#[]⟩, .string ⟨#[]⟩, .string ⟨#[]⟩, .string ⟨#[]⟩] 28)).alloc (.cells #[.slice A n ca, .slice B m cb] 31) = W at *
  refine (HV.out W).mono ?_
  rintro e w1 ⟨rfl, b1⟩
  replace k0 := cells2 (blk_below b1 g0)
  replace g1 := blk_below b1 g1
  replace hbW := below_trans' hbW hbW.size b1
  clear g0
  have z0 := free_of_block g1
  have z1 := cells5 g1
  obtain ⟨y0, y1, y2, y3, y4⟩ := cells5 (set5 g1 (.int .i64 0) (.string ⟨#[]⟩) (.string ⟨#[]⟩) (.string ⟨#[]⟩) (.string ⟨#[]⟩))
  have hbe := below_sets5 hbW (show w.heap.size ≤ w.heap.size + 1 by omega) (.int .i64 0) (.string ⟨#[]⟩) (.string ⟨#[]⟩) (.string ⟨#[]⟩) (.string ⟨#[]⟩)
  clear hbW HV
  go_wp2_with fail
  exact bodyPost_ret (v := .tuple #[estV 0 ⟨#[]⟩ ⟨#[]⟩ ⟨#[]⟩ ⟨#[]⟩, .bool false]) (by simp [results, Tryz.results21, go_sem, y0, y1, y2, y3, y4]) rfl ⟨rfl, hbe⟩

set_option maxRecDepth 100000 in
set_option maxHeartbeats 8000000 in
theorem adj22_bad1 (A B : Option Addr) (n m ca cb : Nat) (f g : Nat → Int) (C1 C2 : ByteArray) (w : World) (hl : IntsV w A n ca f) (hm : IntsV w B m cb g) (hC1 : C1.size ≤ maxLen) (hC2 : C2.size ≤ maxLen) (ho : FitB false f n) :
    Calls Tryz.prog 22 #[.slice A n ca, .slice B m cb, .agg #[.string C1, .string C2]] w fun e w' => e = .returned (.tuple #[estV 0 ⟨#[]⟩ ⟨#[]⟩ ⟨#[]⟩ ⟨#[]⟩, .bool false]) ∧ Below w.heap.size w w' := by
  obtain ⟨hbW, g0, g1⟩ := allocs2' w #[.string C1, .string C2] #[.int .i64 0, .string ⟨#[]⟩, .string ⟨#[]⟩, .string ⟨#[]⟩, .string ⟨#[]⟩] 26 28
  have HR := Lib.hid (fun w => read66 C1 C2 w hC1 hC2)
  have k0 := cells2 g0
  have HO := Lib.hid ho
  clear ho
  clear hC1 hC2
  go_enter Tryz.func22, Tryz.ntmps22
  go_wp2_with fail
  generalize (w.alloc (.cells #[.string C1, .string C2] 26)).alloc (.cells #[.int .i64 0, .string ⟨#[]⟩, .string ⟨#[]⟩, .string ⟨#[]⟩, .string ⟨#[]⟩] 28) = W at *
  refine (HR.out W).mono ?_
  rintro e w1 ⟨b, A1, n1, c1, A2, n2, c2, rfl, -, b1⟩
  obtain ⟨ok, hok⟩ : ∃ ok, (rdR (C1.data.toList, C2.data.toList)).isSome = ok := ⟨_, rfl⟩
  rw [hok]
  have HOK := Lib.hid hok
  clear hok
  have b2 := below_trans' b1 b1.size (below_alloc w1 #[.bool b, .slice A1 n1 c1, .slice A2 n2 c2] 57)
  have hlt1 : w.heap.size + 1 < w1.heap.size := lt_of_blk (blk_below b1 g1)
  have k1 := cells2 (blk_below b2 g0)
  have G := blk_below b2 g1
  replace hbW := below_trans' hbW hbW.size b2
  have hl1 := hl.below hbW
  have hm1 := hm.below hbW
  have z0 := free_of_block G
  have z1 := cells5 G
  obtain ⟨y0, y1, y2, y3, y4⟩ := cells5 (set5 G (.int .i64 0) (.string ⟨#[]⟩) (.string ⟨#[]⟩) (.string ⟨#[]⟩) (.string ⟨#[]⟩))
  have hbe := below_sets5 hbW (show w.heap.size ≤ w.heap.size + 1 by omega) (.int .i64 0) (.string ⟨#[]⟩) (.string ⟨#[]⟩) (.string ⟨#[]⟩) (.string ⟨#[]⟩)
  clear k0 g0 g1 G b1 b2 hbW hl hm
  go_wp2_with fail
  generalize w1.alloc (.cells #[.bool b, .slice A1 n1 c1, .slice A2 n2 c2] 57) = w2 at *
  refine (fits_at HO.out hl1).mono ?_
  rintro e w' ⟨rfl, rfl⟩
  go_wp2_with fail
  exact bodyPost_ret (v := .tuple #[estV 0 ⟨#[]⟩ ⟨#[]⟩ ⟨#[]⟩ ⟨#[]⟩, .bool false]) (by simp [results, Tryz.results22, go_sem, y0, y1, y2, y3, y4]) rfl ⟨rfl, hbe⟩

set_option maxRecDepth 100000 in
set_option maxHeartbeats 8000000 in
theorem adj22_bad2 (A B : Option Addr) (n m ca cb : Nat) (f g : Nat → Int) (C1 C2 : ByteArray) (w : World) (hl : IntsV w A n ca f) (hm : IntsV w B m cb g) (hC1 : C1.size ≤ maxLen) (hC2 : C2.size ≤ maxLen) (ho : FitB true f n) (ho' : FitB false g m) :
    Calls Tryz.prog 22 #[.slice A n ca, .slice B m cb, .agg #[.string C1, .string C2]] w fun e w' => e = .returned (.tuple #[estV 0 ⟨#[]⟩ ⟨#[]⟩ ⟨#[]⟩ ⟨#[]⟩, .bool false]) ∧ Below w.heap.size w w' := by
  obtain ⟨hbW, g0, g1⟩ := allocs2' w #[.string C1, .string C2] #[.int .i64 0, .string ⟨#[]⟩, .string ⟨#[]⟩, .string ⟨#[]⟩, .string ⟨#[]⟩] 26 28
  have HR := Lib.hid (fun w => read66 C1 C2 w hC1 hC2)
  have k0 := cells2 g0
  have HO := Lib.hid ho
  have HO' := Lib.hid ho'
  clear ho ho'
  clear hC1 hC2
  go_enter Tryz.func22, Tryz.ntmps22
  go_wp2_with fail
  generalize (w.alloc (.cells #[.string C1, .string C2] 26)).alloc (.cells #[.int .i64 0, .string ⟨#[]⟩, .string ⟨#[]⟩, .string ⟨#[]⟩, .string ⟨#[]⟩] 28) = W at *
  refine (HR.out W).mono ?_
  rintro e w1 ⟨b, A1, n1, c1, A2, n2, c2, rfl, -, b1⟩
  obtain ⟨ok, hok⟩ : ∃ ok, (rdR (C1.data.toList, C2.data.toList)).isSome = ok := ⟨_, rfl⟩
  rw [hok]
  have HOK := Lib.hid hok
  clear hok
  have b2 := below_trans' b1 b1.size (below_alloc w1 #[.bool b, .slice A1 n1 c1, .slice A2 n2 c2] 57)
  have hlt1 : w.heap.size + 1 < w1.heap.size := lt_of_blk (blk_below b1 g1)
  have k1 := cells2 (blk_below b2 g0)
  have G := blk_below b2 g1
  replace hbW := below_trans' hbW hbW.size b2
  have hl1 := hl.below hbW
  have hm1 := hm.below hbW
  have z0 := free_of_block G
  have z1 := cells5 G
  obtain ⟨y0, y1, y2, y3, y4⟩ := cells5 (set5 G (.int .i64 0) (.string ⟨#[]⟩) (.string ⟨#[]⟩) (.string ⟨#[]⟩) (.string ⟨#[]⟩))
  have hbe := below_sets5 hbW (show w.heap.size ≤ w.heap.size + 1 by omega) (.int .i64 0) (.string ⟨#[]⟩) (.string ⟨#[]⟩) (.string ⟨#[]⟩) (.string ⟨#[]⟩)
  clear k0 g0 g1 G b1 b2 hbW hl hm
  go_wp2_with fail
  generalize w1.alloc (.cells #[.bool b, .slice A1 n1 c1, .slice A2 n2 c2] 57) = w2 at *
  refine (fits_at HO.out hl1).mono ?_
  rintro e w' ⟨rfl, rfl⟩
  go_wp2_with fail
  refine (fits_at HO'.out hm1).mono ?_
  rintro e w' ⟨rfl, rfl⟩
  go_wp2_with fail
  exact bodyPost_ret (v := .tuple #[estV 0 ⟨#[]⟩ ⟨#[]⟩ ⟨#[]⟩ ⟨#[]⟩, .bool false]) (by simp [results, Tryz.results22, go_sem, y0, y1, y2, y3, y4]) rfl ⟨rfl, hbe⟩

set_option maxRecDepth 100000 in
set_option maxHeartbeats 8000000 in
theorem adj22_bad3 (A B : Option Addr) (n m ca cb : Nat) (f g : Nat → Int) (C1 C2 : ByteArray) (w : World) (hl : IntsV w A n ca f) (hm : IntsV w B m cb g) (hC1 : C1.size ≤ maxLen) (hC2 : C2.size ≤ maxLen) (ho : FitB true f n) (ho' : FitB true g m) (hne : ¬ m = n) :
    Calls Tryz.prog 22 #[.slice A n ca, .slice B m cb, .agg #[.string C1, .string C2]] w fun e w' => e = .returned (.tuple #[estV 0 ⟨#[]⟩ ⟨#[]⟩ ⟨#[]⟩ ⟨#[]⟩, .bool false]) ∧ Below w.heap.size w w' := by
  obtain ⟨hbW, g0, g1⟩ := allocs2' w #[.string C1, .string C2] #[.int .i64 0, .string ⟨#[]⟩, .string ⟨#[]⟩, .string ⟨#[]⟩, .string ⟨#[]⟩] 26 28
  have HR := Lib.hid (fun w => read66 C1 C2 w hC1 hC2)
  have k0 := cells2 g0
  have HO := Lib.hid ho
  have HO' := Lib.hid ho'
  have hnf : ¬ (n : Int) = (m : Int) := by omega
  clear ho ho' hne
  clear hC1 hC2
  go_enter Tryz.func22, Tryz.ntmps22
  go_wp2_with fail
  generalize (w.alloc (.cells #[.string C1, .string C2] 26)).alloc (.cells #[.int .i64 0, .string ⟨#[]⟩, .string ⟨#[]⟩, .string ⟨#[]⟩, .string ⟨#[]⟩] 28) = W at *
  refine (HR.out W).mono ?_
  rintro e w1 ⟨b, A1, n1, c1, A2, n2, c2, rfl, -, b1⟩
  obtain ⟨ok, hok⟩ : ∃ ok, (rdR (C1.data.toList, C2.data.toList)).isSome = ok := ⟨_, rfl⟩
  rw [hok]
  have HOK := Lib.hid hok
  clear hok
  have b2 := below_trans' b1 b1.size (below_alloc w1 #[.bool b, .slice A1 n1 c1, .slice A2 n2 c2] 57)
  have hlt1 : w.heap.size + 1 < w1.heap.size := lt_of_blk (blk_below b1 g1)
  have k1 := cells2 (blk_below b2 g0)
  have G := blk_below b2 g1
  replace hbW := below_trans' hbW hbW.size b2
  have hl1 := hl.below hbW
  have hm1 := hm.below hbW
  have z0 := free_of_block G
  have z1 := cells5 G
  obtain ⟨y0, y1, y2, y3, y4⟩ := cells5 (set5 G (.int .i64 0) (.string ⟨#[]⟩) (.string ⟨#[]⟩) (.string ⟨#[]⟩) (.string ⟨#[]⟩))
  have hbe := below_sets5 hbW (show w.heap.size ≤ w.heap.size + 1 by omega) (.int .i64 0) (.string ⟨#[]⟩) (.string ⟨#[]⟩) (.string ⟨#[]⟩) (.string ⟨#[]⟩)
  clear k0 g0 g1 G b1 b2 hbW hl hm
  go_wp2_with fail
  generalize w1.alloc (.cells #[.bool b, .slice A1 n1 c1, .slice A2 n2 c2] 57) = w2 at *
  refine (fits_at HO.out hl1).mono ?_
  rintro e w' ⟨rfl, rfl⟩
  go_wp2_with fail
  refine (fits_at HO'.out hm1).mono ?_
  rintro e w' ⟨rfl, rfl⟩
  go_wp2_with fail
  exact bodyPost_ret (v := .tuple #[estV 0 ⟨#[]⟩ ⟨#[]⟩ ⟨#[]⟩ ⟨#[]⟩, .bool false]) (by simp [results, Tryz.results22, go_sem, y0, y1, y2, y3, y4]) rfl ⟨rfl, hbe⟩

set_option maxRecDepth 100000 in
set_option maxHeartbeats 8000000 in
theorem adj22_bad4 (A B : Option Addr) (n ca cb : Nat) (f g : Nat → Int) (C1 C2 : ByteArray) (w : World) (hl : IntsV w A n ca f) (hm : IntsV w B n cb g) (hC1 : C1.size ≤ maxLen) (hC2 : C2.size ≤ maxLen) (ho : FitB true f n) (ho' : FitB true g n) (hlt : ¬ 2 ≤ n) :
    Calls Tryz.prog 22 #[.slice A n ca, .slice B n cb, .agg #[.string C1, .string C2]] w fun e w' => e = .returned (.tuple #[estV 0 ⟨#[]⟩ ⟨#[]⟩ ⟨#[]⟩ ⟨#[]⟩, .bool false]) ∧ Below w.heap.size w w' := by
  obtain ⟨hbW, g0, g1⟩ := allocs2' w #[.string C1, .string C2] #[.int .i64 0, .string ⟨#[]⟩, .string ⟨#[]⟩, .string ⟨#[]⟩, .string ⟨#[]⟩] 26 28
  have HR := Lib.hid (fun w => read66 C1 C2 w hC1 hC2)
  have k0 := cells2 g0
  have HO := Lib.hid ho
  have HO' := Lib.hid ho'
  have hn2 : (n : Int) < 2 := by omega
  clear ho ho' hlt
  clear hC1 hC2
  go_enter Tryz.func22, Tryz.ntmps22
  go_wp2_with fail
  generalize (w.alloc (.cells #[.string C1, .string C2] 26)).alloc (.cells #[.int .i64 0, .string ⟨#[]⟩, .string ⟨#[]⟩, .string ⟨#[]⟩, .string ⟨#[]⟩] 28) = W at *
  refine (HR.out W).mono ?_
  rintro e w1 ⟨b, A1, n1, c1, A2, n2, c2, rfl, -, b1⟩
  obtain ⟨ok, hok⟩ : ∃ ok, (rdR (C1.data.toList, C2.data.toList)).isSome = ok := ⟨_, rfl⟩
  rw [hok]
  have HOK := Lib.hid hok
  clear hok
  have b2 := below_trans' b1 b1.size (below_alloc w1 #[.bool b, .slice A1 n1 c1, .slice A2 n2 c2] 57)
  have hlt1 : w.heap.size + 1 < w1.heap.size := lt_of_blk (blk_below b1 g1)
  have k1 := cells2 (blk_below b2 g0)
  have G := blk_below b2 g1
  replace hbW := below_trans' hbW hbW.size b2
  have hl1 := hl.below hbW
  have hm1 := hm.below hbW
  have z0 := free_of_block G
  have z1 := cells5 G
  obtain ⟨y0, y1, y2, y3, y4⟩ := cells5 (set5 G (.int .i64 0) (.string ⟨#[]⟩) (.string ⟨#[]⟩) (.string ⟨#[]⟩) (.string ⟨#[]⟩))
  have hbe := below_sets5 hbW (show w.heap.size ≤ w.heap.size + 1 by omega) (.int .i64 0) (.string ⟨#[]⟩) (.string ⟨#[]⟩) (.string ⟨#[]⟩) (.string ⟨#[]⟩)
  clear k0 g0 g1 G b1 b2 hbW hl hm
  go_wp2_with fail
  generalize w1.alloc (.cells #[.bool b, .slice A1 n1 c1, .slice A2 n2 c2] 57) = w2 at *
  refine (fits_at HO.out hl1).mono ?_
  rintro e w' ⟨rfl, rfl⟩
  go_wp2_with fail
  refine (fits_at HO'.out hm1).mono ?_
  rintro e w' ⟨rfl, rfl⟩
  go_wp2_with fail
  exact bodyPost_ret (v := .tuple #[estV 0 ⟨#[]⟩ ⟨#[]⟩ ⟨#[]⟩ ⟨#[]⟩, .bool false]) (by simp [results, Tryz.results22, go_sem, y0, y1, y2, y3, y4]) rfl ⟨rfl, hbe⟩

set_option maxRecDepth 100000 in
set_option maxHeartbeats 8000000 in
theorem adj22_bad5 (A B : Option Addr) (n ca cb : Nat) (f g : Nat → Int) (C1 C2 : ByteArray) (w : World) (hl : IntsV w A n ca f) (hm : IntsV w B n cb g) (hC1 : C1.size ≤ maxLen) (hC2 : C2.size ≤ maxLen) (ho : FitB true f n) (ho' : FitB true g n) (hge : 2 ≤ n) (hb : (rdR (C1.data.toList, C2.data.toList)).isSome = false) :
    Calls Tryz.prog 22 #[.slice A n ca, .slice B n cb, .agg #[.string C1, .string C2]] w fun e w' => e = .returned (.tuple #[estV 0 ⟨#[]⟩ ⟨#[]⟩ ⟨#[]⟩ ⟨#[]⟩, .bool false]) ∧ Below w.heap.size w w' := by
  obtain ⟨hbW, g0, g1⟩ := allocs2' w #[.string C1, .string C2] #[.int .i64 0, .string ⟨#[]⟩, .string ⟨#[]⟩, .string ⟨#[]⟩, .string ⟨#[]⟩] 26 28
  have HR := Lib.hid (fun w => read66 C1 C2 w hC1 hC2)
  have k0 := cells2 g0
  have HO := Lib.hid ho
  have HO' := Lib.hid ho'
  have hn2 : (2 : Int) ≤ n := by omega
  have HB := Lib.hid hb
  clear ho ho' hge hb
  clear hC1 hC2
  go_enter Tryz.func22, Tryz.ntmps22
  go_wp2_with fail
  generalize (w.alloc (.cells #[.string C1, .string C2] 26)).alloc (.cells #[.int .i64 0, .string ⟨#[]⟩, .string ⟨#[]⟩, .string ⟨#[]⟩, .string ⟨#[]⟩] 28) = W at *
  refine (HR.out W).mono ?_
  rintro e w1 ⟨b, A1, n1, c1, A2, n2, c2, rfl, -, b1⟩
  rw [HB.out]
  have b2 := below_trans' b1 b1.size (below_alloc w1 #[.bool b, .slice A1 n1 c1, .slice A2 n2 c2] 57)
  have hlt1 : w.heap.size + 1 < w1.heap.size := lt_of_blk (blk_below b1 g1)
  have k1 := cells2 (blk_below b2 g0)
  have G := blk_below b2 g1
  replace hbW := below_trans' hbW hbW.size b2
  have hl1 := hl.below hbW
  have hm1 := hm.below hbW
  have z0 := free_of_block G
  have z1 := cells5 G
  obtain ⟨y0, y1, y2, y3, y4⟩ := cells5 (set5 G (.int .i64 0) (.string ⟨#[]⟩) (.string ⟨#[]⟩) (.string ⟨#[]⟩) (.string ⟨#[]⟩))
  have hbe := below_sets5 hbW (show w.heap.size ≤ w.heap.size + 1 by omega) (.int .i64 0) (.string ⟨#[]⟩) (.string ⟨#[]⟩) (.string ⟨#[]⟩) (.string ⟨#[]⟩)
  clear k0 g0 g1 G b1 b2 hbW hl hm
  go_wp2_with fail
  generalize w1.alloc (.cells #[.bool b, .slice A1 n1 c1, .slice A2 n2 c2] 57) = w2 at *
  refine (fits_at HO.out hl1).mono ?_
  rintro e w' ⟨rfl, rfl⟩
  go_wp2_with fail
  refine (fits_at HO'.out hm1).mono ?_
  rintro e w' ⟨rfl, rfl⟩
  go_wp2_with fail
  exact bodyPost_ret (v := .tuple #[estV 0 ⟨#[]⟩ ⟨#[]⟩ ⟨#[]⟩ ⟨#[]⟩, .bool false]) (by simp [results, Tryz.results22, go_sem, y0, y1, y2, y3, y4]) rfl ⟨rfl, hbe⟩

set_option maxRecDepth 100000 in
set_option maxHeartbeats 8000000 in
theorem adj22_bad6 (A B : Option Addr) (n ca cb : Nat) (f g : Nat → Int) (C1 C2 : ByteArray) (w : World) (hl : IntsV w A n ca f) (hm : IntsV w B n cb g) (hC1 : C1.size ≤ maxLen) (hC2 : C2.size ≤ maxLen) (ho : FitB true f n) (ho' : FitB true g n) (hge : 2 ≤ n) (hb : (rdR (C1.data.toList, C2.data.toList)).isSome = true) (hlong : 50 < C1.size) :
    Calls Tryz.prog 22 #[.slice A n ca, .slice B n cb, .agg #[.string C1, .string C2]] w fun e w' => e = .returned (.tuple #[estV 0 ⟨#[]⟩ ⟨#[]⟩ ⟨#[]⟩ ⟨#[]⟩, .bool false]) ∧ Below w.heap.size w w' := by
  obtain ⟨hbW, g0, g1⟩ := allocs2' w #[.string C1, .string C2] #[.int .i64 0, .string ⟨#[]⟩, .string ⟨#[]⟩, .string ⟨#[]⟩, .string ⟨#[]⟩] 26 28
  have HR := Lib.hid (fun w => read66 C1 C2 w hC1 hC2)
  have k0 := cells2 g0
  have HO := Lib.hid ho
  have HO' := Lib.hid ho'
  have hn2 : (2 : Int) ≤ n := by omega
  have HB := Lib.hid hb
  have hlI : (50 : Int) < C1.size := by omega
  clear ho ho' hge hb hlong
  clear hC1 hC2
  go_enter Tryz.func22, Tryz.ntmps22
  go_wp2_with fail
  generalize (w.alloc (.cells #[.string C1, .string C2] 26)).alloc (.cells #[.int .i64 0, .string ⟨#[]⟩, .string ⟨#[]⟩, .string ⟨#[]⟩, .string ⟨#[]⟩] 28) = W at *
  refine (HR.out W).mono ?_
  rintro e w1 ⟨b, A1, n1, c1, A2, n2, c2, rfl, -, b1⟩
  rw [HB.out]
  have b2 := below_trans' b1 b1.size (below_alloc w1 #[.bool b, .slice A1 n1 c1, .slice A2 n2 c2] 57)
  have hlt1 : w.heap.size + 1 < w1.heap.size := lt_of_blk (blk_below b1 g1)
  have k1 := cells2 (blk_below b2 g0)
  have G := blk_below b2 g1
  replace hbW := below_trans' hbW hbW.size b2
  have hl1 := hl.below hbW
  have hm1 := hm.below hbW
  have z0 := free_of_block G
  have z1 := cells5 G
  obtain ⟨y0, y1, y2, y3, y4⟩ := cells5 (set5 G (.int .i64 0) (.string ⟨#[]⟩) (.string ⟨#[]⟩) (.string ⟨#[]⟩) (.string ⟨#[]⟩))
  have hbe := below_sets5 hbW (show w.heap.size ≤ w.heap.size + 1 by omega) (.int .i64 0) (.string ⟨#[]⟩) (.string ⟨#[]⟩) (.string ⟨#[]⟩) (.string ⟨#[]⟩)
  clear k0 g0 g1 G b1 b2 hbW hl hm
  go_wp2_with fail
  generalize w1.alloc (.cells #[.bool b, .slice A1 n1 c1, .slice A2 n2 c2] 57) = w2 at *
  refine (fits_at HO.out hl1).mono ?_
  rintro e w' ⟨rfl, rfl⟩
  go_wp2_with fail
  refine (fits_at HO'.out hm1).mono ?_
  rintro e w' ⟨rfl, rfl⟩
  go_wp2_with fail
  exact bodyPost_ret (v := .tuple #[estV 0 ⟨#[]⟩ ⟨#[]⟩ ⟨#[]⟩ ⟨#[]⟩, .bool false]) (by simp [results, Tryz.results22, go_sem, y0, y1, y2, y3, y4]) rfl ⟨rfl, hbe⟩

set_option maxRecDepth 100000 in
set_option maxHeartbeats 8000000 in
theorem adj22_bad7 (A B : Option Addr) (n ca cb : Nat) (f g : Nat → Int) (C1 C2 : ByteArray) (w : World) (hl : IntsV w A n ca f) (hm : IntsV w B n cb g) (hC1 : C1.size ≤ maxLen) (hC2 : C2.size ≤ maxLen) (ho : FitB true f n) (ho' : FitB true g n) (hge : 2 ≤ n) (hb : (rdR (C1.data.toList, C2.data.toList)).isSome = true) (hshort : C1.size ≤ 50) (hlong : 50 < C2.size) :
    Calls Tryz.prog 22 #[.slice A n ca, .slice B n cb, .agg #[.string C1, .string C2]] w fun e w' => e = .returned (.tuple #[estV 0 ⟨#[]⟩ ⟨#[]⟩ ⟨#[]⟩ ⟨#[]⟩, .bool false]) ∧ Below w.heap.size w w' := by
  obtain ⟨hbW, g0, g1⟩ := allocs2' w #[.string C1, .string C2] #[.int .i64 0, .string ⟨#[]⟩, .string ⟨#[]⟩, .string ⟨#[]⟩, .string ⟨#[]⟩] 26 28
  have HR := Lib.hid (fun w => read66 C1 C2 w hC1 hC2)
  have k0 := cells2 g0
  have HO := Lib.hid ho
  have HO' := Lib.hid ho'
  have hn2 : (2 : Int) ≤ n := by omega
  have HB := Lib.hid hb
  have hsI : (C1.size : Int) ≤ 50 := by omega
  have hlI : (50 : Int) < C2.size := by omega
  clear ho ho' hge hb hlong hshort
  clear hC1 hC2
  go_enter Tryz.func22, Tryz.ntmps22
  go_wp2_with fail
  generalize (w.alloc (.cells #[.string C1, .string C2] 26)).alloc (.cells #[.int .i64 0, .string ⟨#[]⟩, .string ⟨#[]⟩, .string ⟨#[]⟩, .string ⟨#[]⟩] 28) = W at *
  refine (HR.out W).mono ?_
  rintro e w1 ⟨b, A1, n1, c1, A2, n2, c2, rfl, -, b1⟩
  rw [HB.out]
  have b2 := below_trans' b1 b1.size (below_alloc w1 #[.bool b, .slice A1 n1 c1, .slice A2 n2 c2] 57)
  have hlt1 : w.heap.size + 1 < w1.heap.size := lt_of_blk (blk_below b1 g1)
  have k1 := cells2 (blk_below b2 g0)
  have G := blk_below b2 g1
  replace hbW := below_trans' hbW hbW.size b2
  have hl1 := hl.below hbW
  have hm1 := hm.below hbW
  have z0 := free_of_block G
  have z1 := cells5 G
  obtain ⟨y0, y1, y2, y3, y4⟩ := cells5 (set5 G (.int .i64 0) (.string ⟨#[]⟩) (.string ⟨#[]⟩) (.string ⟨#[]⟩) (.string ⟨#[]⟩))
  have hbe := below_sets5 hbW (show w.heap.size ≤ w.heap.size + 1 by omega) (.int .i64 0) (.string ⟨#[]⟩) (.string ⟨#[]⟩) (.string ⟨#[]⟩) (.string ⟨#[]⟩)
  clear k0 g0 g1 G b1 b2 hbW hl hm
  go_wp2_with fail
  generalize w1.alloc (.cells #[.bool b, .slice A1 n1 c1, .slice A2 n2 c2] 57) = w2 at *
  refine (fits_at HO.out hl1).mono ?_
  rintro e w' ⟨rfl, rfl⟩
  go_wp2_with fail
  refine (fits_at HO'.out hm1).mono ?_
  rintro e w' ⟨rfl, rfl⟩
  go_wp2_with fail
  exact bodyPost_ret (v := .tuple #[estV 0 ⟨#[]⟩ ⟨#[]⟩ ⟨#[]⟩ ⟨#[]⟩, .bool false]) (by simp [results, Tryz.results22, go_sem, y0, y1, y2, y3, y4]) rfl ⟨rfl, hbe⟩

theorem adj_bad (A B : Option Addr) (n m ca cb : Nat) (f g : Nat → Int) (C1 C2 : ByteArray) (hC1 : C1.size ≤ maxLen) (hC2 : C2.size ≤ maxLen) (hbad : ¬ (m = n ∧ 2 ≤ n ∧ Fit f n ∧ Fit g n ∧ cenOk C1 C2)) (w : World) (hl : IntsV w A n ca f) (hm : IntsV w B m cb g) :
    (Calls Tryz.prog 21 #[.slice A n ca, .slice B m cb, .agg #[.string C1, .string C2]] w fun e w' => e = .returned (.tuple #[estV 0 ⟨#[]⟩ ⟨#[]⟩ ⟨#[]⟩ ⟨#[]⟩, .bool false]) ∧ Below w.heap.size w w') ∧
    (Calls Tryz.prog 22 #[.slice A n ca, .slice B m cb, .agg #[.string C1, .string C2]] w fun e w' => e = .returned (.tuple #[estV 0 ⟨#[]⟩ ⟨#[]⟩ ⟨#[]⟩ ⟨#[]⟩, .bool false]) ∧ Below w.heap.size w w') := by
  obtain ⟨o, ho⟩ := fit_or f n
  obtain ⟨o', ho'⟩ := fit_or g m
  by_cases hfit : m = n ∧ 2 ≤ n ∧ Fit f n ∧ Fit g n
  · obtain ⟨rfl, h2, hf, hg⟩ := hfit
    have hc : ¬ cenOk C1 C2 := fun h => hbad ⟨rfl, h2, hf, hg, h⟩
    cases hb : (rdR (C1.data.toList, C2.data.toList)).isSome with
    | false => exact ⟨adj46_bad2 A B m m ca cb f g C1 C2 w hl hm hC1 hC2 ⟨rfl, h2, hf, hg⟩ hb, adj22_bad5 A B m ca cb f g C1 C2 w hl hm hC1 hC2 (fitT hf) (fitT hg) h2 hb⟩
    | true =>
      have hlong : 50 < C1.size ∨ 50 < C2.size := by
        by_cases h1 : 50 < C1.size
        · exact .inl h1
        · by_cases h3 : 50 < C2.size
          · exact .inr h3
          · exact absurd ⟨hb, by omega, by omega⟩ hc
      refine ⟨adj46_bad3 A B m m ca cb f g C1 C2 w hl hm hC1 hC2 ⟨rfl, h2, hf, hg⟩ hb hlong, ?_⟩
      by_cases h1 : 50 < C1.size
      · exact adj22_bad6 A B m ca cb f g C1 C2 w hl hm hC1 hC2 (fitT hf) (fitT hg) h2 hb h1
      · exact adj22_bad7 A B m ca cb f g C1 C2 w hl hm hC1 hC2 (fitT hf) (fitT hg) h2 hb (by omega) (by omega)
  · refine ⟨adj46_bad1 A B n m ca cb f g C1 C2 w hl hm hC1 hC2 hfit, ?_⟩
    cases o with
    | false => exact adj22_bad1 A B n m ca cb f g C1 C2 w hl hm hC1 hC2 ho
    | true =>
      cases o' with
      | false => exact adj22_bad2 A B n m ca cb f g C1 C2 w hl hm hC1 hC2 ho ho'
      | true =>
        by_cases hne : m = n
        · subst hne
          exact adj22_bad4 A B m ca cb f g C1 C2 w hl hm hC1 hC2 ho ho' (fun h => hfit ⟨rfl, h, ho.out.1 rfl, ho'.out.1 rfl⟩)
        · exact adj22_bad3 A B n m ca cb f g C1 C2 w hl hm hC1 hC2 ho ho' hne
end Go.Proofs.YtpligjkbnlfhgaaGreatDoor
