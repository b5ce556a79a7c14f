/- Products and quotients of intervals, the program's. No statement is proved here. -/
import Derived.Test.YtpligjkbnlfhgaaDoorCrn
namespace Go.Proofs.YtpligjkbnlfhgaaDoor
open Go.RowKit

set_option maxRecDepth 100000 in
set_option maxHeartbeats 4000000 in
theorem mul56 (a b c d : Int) (w : World) : Calls Tryd.prog 56 #[.agg #[.int .i64 a, .int .i64 b], .agg #[.int .i64 c, .int .i64 d]] w fun e w' => e = .returned (resV (mulI a b c d)) ∧ Below w.heap.size w w' := by
  obtain ⟨hbW, g0, g1, g2⟩ := allocs3 w (ivA a b) (ivA c d) #[.int .i64 0, .int .i64 0] 69 69 69
  unfold ivA at *
  have k0 := cells2i g0
  have k1 := cells2i g1
  obtain ⟨R, hR⟩ : ∃ R, mulI a b c d = R := ⟨_, rfl⟩
  rw [hR]
  have hbo := both20 a b c d
  obtain ⟨o, ho⟩ : ∃ o, (inI a b && inI c d) = o := ⟨_, rfl⟩
  rw [ho] at hbo
  have HBo := Lib.hid hbo
  clear hbo
  cases o with
  | false =>
    have e1 : R = none := by
      rw [← hR]; unfold mulI
      rw [if_neg (by intro hh; rw [hh.1, hh.2] at ho; cases ho)]
    have E1 := Lib.hid e1
    clear e1 hR ho
    go_enter Tryd.func56, Tryd.ntmps56
    go_wp2_with fail
    generalize (((w.alloc (.cells #[.int .i64 a, .int .i64 b] 69)).alloc (.cells #[.int .i64 c, .int .i64 d] 69)).alloc (.cells #[.int .i64 0, .int .i64 0] 69)) = W at *
    refine (HBo.out W).mono ?_
    rintro e w1 ⟨rfl, hb1⟩
    have hB := below_trans' hbW hbW.size hb1
    replace g0 := blk_below hb1 g0
    replace g1 := blk_below hb1 g1
    replace g2 := blk_below hb1 g2
    replace k0 := cells2i g0
    replace k1 := cells2i g1
    have k2 := cells2i g2
    have f2 := free_of_block g2
    clear hbW
    obtain ⟨y0, y1⟩ := ret2i (A := 0) (B := 0) g2
    have hbe := below_sets2 hB (show w.heap.size ≤ w.heap.size + 1 + 1 by omega) (.int .i64 0) (.int .i64 0)
    clear hB hb1
    go_wp2_with fail
    exact bodyPost_ret (v := .tuple #[.agg #[.int .i64 0, .int .i64 0], .bool false]) (by simp [results, Tryd.results56, go_sem, y0, y1]) rfl ⟨by rw [E1.out]; rfl, hbe⟩
  | true =>
    have h12 : inI a b = true ∧ inI c d = true := by simpa using ho
    have hi1 := inI_iff.1 h12.1
    have hi2 := inI_iff.1 h12.2
    have e1 : cornP prodI a b c d = R := by
      rw [← hR]; unfold mulI
      rw [if_pos h12, cornP_fit fun x y p q => prodI_le]
    have E1 := Lib.hid e1
    have ha : -2305843009213693952 ≤ a ∧ a ≤ 2305843009213693952 := by omega
    have hb : -2305843009213693952 ≤ b ∧ b ≤ 2305843009213693952 := by omega
    have hc : -2305843009213693952 ≤ c ∧ c ≤ 2305843009213693952 := by omega
    have hd : -2305843009213693952 ≤ d ∧ d ≤ 2305843009213693952 := by omega
    clear e1 hR ho h12
    go_enter Tryd.func56, Tryd.ntmps56
    go_wp2_with fail
    generalize (((w.alloc (.cells #[.int .i64 a, .int .i64 b] 69)).alloc (.cells #[.int .i64 c, .int .i64 d] 69)).alloc (.cells #[.int .i64 0, .int .i64 0] 69)) = W at *
    refine (HBo.out W).mono ?_
    rintro e w1 ⟨rfl, hb1⟩
    have hB := below_trans' hbW hbW.size hb1
    replace g0 := blk_below hb1 g0
    replace g1 := blk_below hb1 g1
    replace g2 := blk_below hb1 g2
    replace k0 := cells2i g0
    replace k1 := cells2i g1
    have k2 := cells2i g2
    have f2 := free_of_block g2
    clear hbW
    go_wp2_with fail
    refine (corners_product a b c d _ ha hb hc hd).mono ?_
    rintro e w2 ⟨rfl, hb2⟩
    have hB2 := below_trans' hB hB.size hb2
    have G2 := blk_below hb2 g2
    have q2 := cells2i G2
    have j2 := free_of_block G2
    obtain ⟨X, Y, ok, hX⟩ : ∃ X Y ok, resV R = .tuple #[.agg #[.int .i64 X, .int .i64 Y], .bool ok] := by
      cases R with
      | none => exact ⟨_, _, _, rfl⟩
      | some r => exact ⟨_, _, _, rfl⟩
    rw [E1.out, hX]
    obtain ⟨y0, y1⟩ := ret2i (A := X) (B := Y) G2
    have hbe := below_sets2 hB2 (show w.heap.size ≤ w.heap.size + 1 + 1 by omega) (.int .i64 X) (.int .i64 Y)
    clear G2 hB hB2 hb1 hb2 k0 k1 g0 g1 g2 f2
    have HX := Lib.hid hX
    clear hX
    go_wp2_with fail
    exact bodyPost_ret (v := .tuple #[.agg #[.int .i64 X, .int .i64 Y], .bool ok]) (by simp [results, Tryd.results56, go_sem, y0, y1]) rfl ⟨congrArg Ending.returned HX.out.symm, hbe⟩

set_option maxRecDepth 100000 in
set_option maxHeartbeats 4000000 in
theorem div57 (a b c d : Int) (w : World) : Calls Tryd.prog 57 #[.agg #[.int .i64 a, .int .i64 b], .agg #[.int .i64 c, .int .i64 d]] w fun e w' => e = .returned (resV (divI a b c d)) ∧ Below w.heap.size w w' := by
  obtain ⟨hbW, g0, g1, g2⟩ := allocs3 w (ivA a b) (ivA c d) #[.int .i64 0, .int .i64 0] 69 69 69
  unfold ivA at *
  have k0 := cells2i g0
  have k1 := cells2i g1
  obtain ⟨R, hR⟩ : ∃ R, divI a b c d = R := ⟨_, rfl⟩
  rw [hR]
  have hbo := both20 a b c d
  obtain ⟨o, ho⟩ : ∃ o, (inI a b && inI c d) = o := ⟨_, rfl⟩
  rw [ho] at hbo
  have HBo := Lib.hid hbo
  clear hbo
  cases o with
  | false =>
    have e1 : R = none := by
      rw [← hR]; unfold divI
      rw [if_neg (by intro hh; rw [hh.1, hh.2] at ho; cases ho)]
    have E1 := Lib.hid e1
    clear e1 hR ho
    go_enter Tryd.func57, Tryd.ntmps57
    go_wp2_with fail
    generalize (((w.alloc (.cells #[.int .i64 a, .int .i64 b] 69)).alloc (.cells #[.int .i64 c, .int .i64 d] 69)).alloc (.cells #[.int .i64 0, .int .i64 0] 69)) = W at *
    refine (HBo.out W).mono ?_
    rintro e w1 ⟨rfl, hb1⟩
    have hB := below_trans' hbW hbW.size hb1
    replace g0 := blk_below hb1 g0
    replace g1 := blk_below hb1 g1
    replace g2 := blk_below hb1 g2
    replace k0 := cells2i g0
    replace k1 := cells2i g1
    have k2 := cells2i g2
    have f2 := free_of_block g2
    clear hbW
    obtain ⟨y0, y1⟩ := ret2i (A := 0) (B := 0) g2
    have hbe := below_sets2 hB (show w.heap.size ≤ w.heap.size + 1 + 1 by omega) (.int .i64 0) (.int .i64 0)
    clear hB hb1
    go_wp2_with fail
    exact bodyPost_ret (v := .tuple #[.agg #[.int .i64 0, .int .i64 0], .bool false]) (by simp [results, Tryd.results57, go_sem, y0, y1]) rfl ⟨by rw [E1.out]; rfl, hbe⟩
  | true =>
    have h12 : inI a b = true ∧ inI c d = true := by simpa using ho
    have hi1 := inI_iff.1 h12.1
    have hi2 := inI_iff.1 h12.2
    have ha : -2305843009213693952 ≤ a ∧ a ≤ 2305843009213693952 := by omega
    have hb : -2305843009213693952 ≤ b ∧ b ≤ 2305843009213693952 := by omega
    have hc : -2305843009213693952 ≤ c ∧ c ≤ 2305843009213693952 := by omega
    have hd : -2305843009213693952 ≤ d ∧ d ≤ 2305843009213693952 := by omega
    by_cases hz : c ≤ 0 ∧ 0 ≤ d
    · have e1 : R = none := by
        rw [← hR]; unfold divI
        rw [if_pos h12, if_pos hz]
      have E1 := Lib.hid e1
      obtain ⟨z1, z2⟩ := hz
      clear e1 hR ho h12
      go_enter Tryd.func57, Tryd.ntmps57
      go_wp2_with fail
      generalize (((w.alloc (.cells #[.int .i64 a, .int .i64 b] 69)).alloc (.cells #[.int .i64 c, .int .i64 d] 69)).alloc (.cells #[.int .i64 0, .int .i64 0] 69)) = W at *
      refine (HBo.out W).mono ?_
      rintro e w1 ⟨rfl, hb1⟩
      have hB := below_trans' hbW hbW.size hb1
      replace g0 := blk_below hb1 g0
      replace g1 := blk_below hb1 g1
      replace g2 := blk_below hb1 g2
      replace k0 := cells2i g0
      replace k1 := cells2i g1
      have k2 := cells2i g2
      have f2 := free_of_block g2
      clear hbW
      obtain ⟨y0, y1⟩ := ret2i (A := 0) (B := 0) g2
      have hbe := below_sets2 hB (show w.heap.size ≤ w.heap.size + 1 + 1 by omega) (.int .i64 0) (.int .i64 0)
      clear hB hb1
      go_wp2_with fail
      exact bodyPost_ret (v := .tuple #[.agg #[.int .i64 0, .int .i64 0], .bool false]) (by simp [results, Tryd.results57, go_sem, y0, y1]) rfl ⟨by rw [E1.out]; rfl, hbe⟩
    · have e1 : cornP quotI a b c d = R := by
        rw [← hR]; unfold divI
        rw [if_pos h12, if_neg hz, cornP_fit fun x y p q => quotI_le]
      have E1 := Lib.hid e1
      have hc0 : c ≠ 0 := by omega
      have hd0 : d ≠ 0 := by omega
      have HC0 := Lib.hid hc0
      have HD0 := Lib.hid hd0
      clear e1 hR ho h12 hc0 hd0
      by_cases hcp : c ≤ 0
      · have hdp : d < 0 := by omega
        have hdp' : decide (0 ≤ d) = false := decide_eq_false (by omega)
        clear hz
        go_enter Tryd.func57, Tryd.ntmps57
        go_wp2_with fail
        generalize (((w.alloc (.cells #[.int .i64 a, .int .i64 b] 69)).alloc (.cells #[.int .i64 c, .int .i64 d] 69)).alloc (.cells #[.int .i64 0, .int .i64 0] 69)) = W at *
        refine (HBo.out W).mono ?_
        rintro e w1 ⟨rfl, hb1⟩
        have hB := below_trans' hbW hbW.size hb1
        replace g0 := blk_below hb1 g0
        replace g1 := blk_below hb1 g1
        replace g2 := blk_below hb1 g2
        replace k0 := cells2i g0
        replace k1 := cells2i g1
        have k2 := cells2i g2
        have f2 := free_of_block g2
        clear hbW
        go_wp2_with fail
        refine (corners_quotient a b c d _ ha hb hc hd HC0.out HD0.out).mono ?_
        rintro e w2 ⟨rfl, hb2⟩
        have hB2 := below_trans' hB hB.size hb2
        have G2 := blk_below hb2 g2
        have q2 := cells2i G2
        have j2 := free_of_block G2
        obtain ⟨X, Y, ok, hX⟩ : ∃ X Y ok, resV R = .tuple #[.agg #[.int .i64 X, .int .i64 Y], .bool ok] := by
          cases R with
          | none => exact ⟨_, _, _, rfl⟩
          | some r => exact ⟨_, _, _, rfl⟩
        rw [E1.out, hX]
        obtain ⟨y0, y1⟩ := ret2i (A := X) (B := Y) G2
        have hbe := below_sets2 hB2 (show w.heap.size ≤ w.heap.size + 1 + 1 by omega) (.int .i64 X) (.int .i64 Y)
        clear G2 hB hB2 hb1 hb2 k0 k1 g0 g1 g2 f2
        have HX := Lib.hid hX
        clear hX
        go_wp2_with fail
        exact bodyPost_ret (v := .tuple #[.agg #[.int .i64 X, .int .i64 Y], .bool ok]) (by simp [results, Tryd.results57, go_sem, y0, y1]) rfl ⟨congrArg Ending.returned HX.out.symm, hbe⟩
      · have hcp' : 0 < c := by omega
        clear hz
        go_enter Tryd.func57, Tryd.ntmps57
        go_wp2_with fail
        generalize (((w.alloc (.cells #[.int .i64 a, .int .i64 b] 69)).alloc (.cells #[.int .i64 c, .int .i64 d] 69)).alloc (.cells #[.int .i64 0, .int .i64 0] 69)) = W at *
        refine (HBo.out W).mono ?_
        rintro e w1 ⟨rfl, hb1⟩
        have hB := below_trans' hbW hbW.size hb1
        replace g0 := blk_below hb1 g0
        replace g1 := blk_below hb1 g1
        replace g2 := blk_below hb1 g2
        replace k0 := cells2i g0
        replace k1 := cells2i g1
        have k2 := cells2i g2
        have f2 := free_of_block g2
        clear hbW
        go_wp2_with fail
        refine (corners_quotient a b c d _ ha hb hc hd HC0.out HD0.out).mono ?_
        rintro e w2 ⟨rfl, hb2⟩
        have hB2 := below_trans' hB hB.size hb2
        have G2 := blk_below hb2 g2
        have q2 := cells2i G2
        have j2 := free_of_block G2
        obtain ⟨X, Y, ok, hX⟩ : ∃ X Y ok, resV R = .tuple #[.agg #[.int .i64 X, .int .i64 Y], .bool ok] := by
          cases R with
          | none => exact ⟨_, _, _, rfl⟩
          | some r => exact ⟨_, _, _, rfl⟩
        rw [E1.out, hX]
        obtain ⟨y0, y1⟩ := ret2i (A := X) (B := Y) G2
        have hbe := below_sets2 hB2 (show w.heap.size ≤ w.heap.size + 1 + 1 by omega) (.int .i64 X) (.int .i64 Y)
        clear G2 hB hB2 hb1 hb2 k0 k1 g0 g1 g2 f2
        have HX := Lib.hid hX
        clear hX
        go_wp2_with fail
        exact bodyPost_ret (v := .tuple #[.agg #[.int .i64 X, .int .i64 Y], .bool ok]) (by simp [results, Tryd.results57, go_sem, y0, y1]) rfl ⟨congrArg Ending.returned HX.out.symm, hbe⟩
end Go.Proofs.YtpligjkbnlfhgaaDoor
