/- Corners: the program's products and quotients of intervals. No statement is proved here. -/
import Derived.Test.YtpligjkbnlfhgaaDoorIvO
import Derived.LoopN
namespace Go.Proofs.YtpligjkbnlfhgaaDoor
open Go.RowKit

def cornP (f : Int → Int → IR) (a b c d : Int) : IR := (hull4 2305843009213693953 (-2305843009213693953) (corners f a b c d)).bind fun p => mkI p.1 p.2
theorem cornP_fit {f : Int → Int → IR} {a b c d : Int} (hle : ∀ x y p q, f x y = some (p, q) → p ≤ q) : cornP f a b c d = hull4 2305843009213693952 (-2305843009213693952) ((corners f a b c d).map fitI) := by
  refine hull4_fit (corners f a b c d) _ _ _ _ (fun p q hm => ?_) (.inr ⟨by simp [corners], rfl, rfl, rfl, rfl⟩)
  simp only [corners, List.mem_cons, List.not_mem_nil, or_false] at hm
  rcases hm with h | h | h | h <;> exact hle _ _ _ _ h.symm

set_option maxRecDepth 100000 in
set_option maxHeartbeats 8000000 in
theorem corners_product (a b c d : Int) (w : World) (ha : -2305843009213693952 ≤ a ∧ a ≤ 2305843009213693952) (hb : -2305843009213693952 ≤ b ∧ b ≤ 2305843009213693952) (hc : -2305843009213693952 ≤ c ∧ c ≤ 2305843009213693952) (hd : -2305843009213693952 ≤ d ∧ d ≤ 2305843009213693952) :
    Calls Tryd.prog 103 #[.agg #[.int .i64 a, .int .i64 b], .agg #[.int .i64 c, .int .i64 d], .func (Fn.func 104) #[] #[]] w fun e w' => e = .returned (resV (cornP prodI a b c d)) ∧ Below w.heap.size w w' := by
  obtain ⟨R, hR⟩ : ∃ R, cornP prodI a b c d = R := ⟨_, rfl⟩
  rw [hR]
  obtain ⟨hbW, g0, g1, g2⟩ := allocs3 w (ivA a b) (ivA c d) #[.int .i64 0, .int .i64 0] 69 69 69
  unfold ivA at *
  have P1 := fun w => product24 a c w ha hc
  have P2 := fun w => product24 a d w ha hd
  have P3 := fun w => product24 b c w hb hc
  have P4 := fun w => product24 b d w hb hd
  have hR' : (hull4 2305843009213693953 (-2305843009213693953) [prodI a c, prodI a d, prodI b c, prodI b d]).bind (fun p => mkI p.1 p.2) = R := hR
  obtain ⟨r1, h1⟩ : ∃ r, prodI a c = r := ⟨_, rfl⟩
  obtain ⟨r2, h2⟩ : ∃ r, prodI a d = r := ⟨_, rfl⟩
  obtain ⟨r3, h3⟩ : ∃ r, prodI b c = r := ⟨_, rfl⟩
  obtain ⟨r4, h4⟩ : ∃ r, prodI b d = r := ⟨_, rfl⟩
  rw [h1] at P1 hR'
  rw [h2] at P2 hR'
  rw [h3] at P3 hR'
  rw [h4] at P4 hR'
  have HR := Lib.hid hR'
  have p1 := Lib.hid P1
  have p2 := Lib.hid P2
  have p3 := Lib.hid P3
  have p4 := Lib.hid P4
  clear P1 P2 P3 P4 hR hR' h1 h2 h3 h4
  have ix0 : ∀ w, (Instr.index 163 (.agg #[.int .i64 a, .int .i64 b]) (.int .i64 0)).run Tryd.prog w = .ok (.int .i64 a) w := fun _ => by kernel_rfl
  have ix1 : ∀ w, (Instr.index 163 (.agg #[.int .i64 a, .int .i64 b]) (.int .i64 1)).run Tryd.prog w = .ok (.int .i64 b) w := fun _ => by kernel_rfl
  have iy0 : ∀ w, (Instr.index 163 (.agg #[.int .i64 c, .int .i64 d]) (.int .i64 0)).run Tryd.prog w = .ok (.int .i64 c) w := fun _ => by kernel_rfl
  have iy1 : ∀ w, (Instr.index 163 (.agg #[.int .i64 c, .int .i64 d]) (.int .i64 1)).run Tryd.prog w = .ok (.int .i64 d) w := fun _ => by kernel_rfl
  have k0 := cells2i g0
  have k1 := cells2i g1
  have k2 := cells2i g2
  have f2 := free_of_block g2
  go_enter Tryd.func103, Tryd.ntmps103
  go_wp2_with fail
  generalize (((w.alloc (.cells #[.int .i64 a, .int .i64 b] 69)).alloc (.cells #[.int .i64 c, .int .i64 d] 69)).alloc (.cells #[.int .i64 0, .int .i64 0] 69)) = W at *
  refine wp_loop_rounds 3 ?_
  rw [rounds_succ]
  go_wp2_with fail
  refine wp_loop_rounds 3 ?_
  rw [rounds_succ]
  go_wp2_with fail
  refine (p1.out _).mono ?_
  rintro e w' ⟨rfl, rfl⟩
  cases r1 with
  | none =>
    simp only [pairV]
    obtain ⟨y0, y1⟩ := ret2i (A := 0) (B := 0) g2
    have hbe := below_sets2 hbW (show w.heap.size ≤ w.heap.size + 1 + 1 by omega) (.int .i64 0) (.int .i64 0)
    have hn : none = R := HR.out
    clear g2 hbW
    go_wp2_with fail
    subst hn
    exact bodyPost_ret (v := .tuple #[.agg #[.int .i64 0, .int .i64 0], .bool false]) (by simp [results, Tryd.results103, go_sem, y0, y1]) rfl ⟨rfl, hbe⟩
  | some r =>
    obtain ⟨l1, m1⟩ := r
    simp only [pairV]
    go_wp2_with fail
    rw [rounds_succ]
    go_wp2_with fail
    refine (p2.out _).mono ?_
    rintro e w' ⟨rfl, rfl⟩
    cases r2 with
    | none =>
      simp only [pairV]
      obtain ⟨y0, y1⟩ := ret2i (A := 0) (B := 0) g2
      have hbe := below_sets2 hbW (show w.heap.size ≤ w.heap.size + 1 + 1 by omega) (.int .i64 0) (.int .i64 0)
      have hn : none = R := HR.out
      clear g2 hbW
      go_wp2_with fail
      subst hn
      exact bodyPost_ret (v := .tuple #[.agg #[.int .i64 0, .int .i64 0], .bool false]) (by simp [results, Tryd.results103, go_sem, y0, y1]) rfl ⟨rfl, hbe⟩
    | some r =>
      obtain ⟨l2, m2⟩ := r
      simp only [pairV]
      go_wp2_with fail
      rw [rounds_succ]
      go_wp2_with fail
      rw [rounds_succ]
      go_wp2_with fail
      refine wp_loop_rounds 3 ?_
      rw [rounds_succ]
      go_wp2_with fail
      refine (p3.out _).mono ?_
      rintro e w' ⟨rfl, rfl⟩
      cases r3 with
      | none =>
        simp only [pairV]
        obtain ⟨y0, y1⟩ := ret2i (A := 0) (B := 0) g2
        have hbe := below_sets2 hbW (show w.heap.size ≤ w.heap.size + 1 + 1 by omega) (.int .i64 0) (.int .i64 0)
        have hn : none = R := HR.out
        clear g2 hbW
        go_wp2_with fail
        subst hn
        exact bodyPost_ret (v := .tuple #[.agg #[.int .i64 0, .int .i64 0], .bool false]) (by simp [results, Tryd.results103, go_sem, y0, y1]) rfl ⟨rfl, hbe⟩
      | some r =>
        obtain ⟨l3, m3⟩ := r
        simp only [pairV]
        go_wp2_with fail
        rw [rounds_succ]
        go_wp2_with fail
        refine (p4.out _).mono ?_
        rintro e w' ⟨rfl, rfl⟩
        cases r4 with
        | none =>
          simp only [pairV]
          obtain ⟨y0, y1⟩ := ret2i (A := 0) (B := 0) g2
          have hbe := below_sets2 hbW (show w.heap.size ≤ w.heap.size + 1 + 1 by omega) (.int .i64 0) (.int .i64 0)
          have hn : none = R := HR.out
          clear g2 hbW
          go_wp2_with fail
          subst hn
          exact bodyPost_ret (v := .tuple #[.agg #[.int .i64 0, .int .i64 0], .bool false]) (by simp [results, Tryd.results103, go_sem, y0, y1]) rfl ⟨rfl, hbe⟩
        | some r =>
          obtain ⟨l4, m4⟩ := r
          simp only [pairV]
          go_wp2_with fail
          rw [rounds_succ]
          go_wp2_with fail
          rw [rounds_succ]
          go_wp2_with fail
          refine (made21 _ _ _).mono ?_
          rintro e w1 ⟨rfl, hb1⟩
          have hr' : mkI (min (min (min (min 2305843009213693953 l1) l2) l3) l4) (max (max (max (max (-2305843009213693953) m1) m2) m3) m4) = R := HR.out
          have hr : mkI (min 2305843009213693953 (min l1 (min l2 (min l3 l4)))) (max (-2305843009213693953) (max m1 (max m2 (max m3 m4)))) = R := by rw [← hr']; congr 1 <;> omega
          clear hr'
          have Hr := Lib.hid hr
          have hB := below_trans' hbW hbW.size hb1
          have G2 := blk_below hb1 g2
          have q2 := cells2i G2
          have j2 := free_of_block G2
          clear hr k1 k2 f2 g1 g2 hbW
          obtain ⟨X, Y, ok, hX⟩ : ∃ X Y ok, resV R = .tuple #[.agg #[.int .i64 X, .int .i64 Y], .bool ok] := by
            cases R with
            | none => exact ⟨_, _, _, rfl⟩
            | some r => exact ⟨_, _, _, rfl⟩
          rw [Hr.out, hX]
          obtain ⟨y0, y1⟩ := ret2i (A := X) (B := Y) G2
          have hbe := below_sets2 hB (show w.heap.size ≤ w.heap.size + 1 + 1 by omega) (.int .i64 X) (.int .i64 Y)
          clear G2 hB hb1
          have HX := Lib.hid hX
          clear hX
          go_wp2_with fail
          exact bodyPost_ret (v := .tuple #[.agg #[.int .i64 X, .int .i64 Y], .bool ok]) (by simp [results, Tryd.results103, go_sem, y0, y1]) rfl ⟨congrArg Ending.returned HX.out.symm, hbe⟩

set_option maxRecDepth 100000 in
set_option maxHeartbeats 8000000 in
theorem corners_quotient (a b c d : Int) (w : World) (ha : -2305843009213693952 ≤ a ∧ a ≤ 2305843009213693952) (hb : -2305843009213693952 ≤ b ∧ b ≤ 2305843009213693952) (hc : -2305843009213693952 ≤ c ∧ c ≤ 2305843009213693952) (hd : -2305843009213693952 ≤ d ∧ d ≤ 2305843009213693952) (hc0 : c ≠ 0) (hd0 : d ≠ 0) :
    Calls Tryd.prog 103 #[.agg #[.int .i64 a, .int .i64 b], .agg #[.int .i64 c, .int .i64 d], .func (Fn.func 105) #[] #[]] w fun e w' => e = .returned (resV (cornP quotI a b c d)) ∧ Below w.heap.size w w' := by
  obtain ⟨R, hR⟩ : ∃ R, cornP quotI a b c d = R := ⟨_, rfl⟩
  rw [hR]
  obtain ⟨hbW, g0, g1, g2⟩ := allocs3 w (ivA a b) (ivA c d) #[.int .i64 0, .int .i64 0] 69 69 69
  unfold ivA at *
  have P1 := fun w => quotient32 a c w ha hc hc0
  have P2 := fun w => quotient32 a d w ha hd hd0
  have P3 := fun w => quotient32 b c w hb hc hc0
  have P4 := fun w => quotient32 b d w hb hd hd0
  have hR' : (hull4 2305843009213693953 (-2305843009213693953) [quotI a c, quotI a d, quotI b c, quotI b d]).bind (fun p => mkI p.1 p.2) = R := hR
  obtain ⟨r1, h1⟩ : ∃ r, quotI a c = r := ⟨_, rfl⟩
  obtain ⟨r2, h2⟩ : ∃ r, quotI a d = r := ⟨_, rfl⟩
  obtain ⟨r3, h3⟩ : ∃ r, quotI b c = r := ⟨_, rfl⟩
  obtain ⟨r4, h4⟩ : ∃ r, quotI b d = r := ⟨_, rfl⟩
  rw [h1] at P1 hR'
  rw [h2] at P2 hR'
  rw [h3] at P3 hR'
  rw [h4] at P4 hR'
  have HR := Lib.hid hR'
  have p1 := Lib.hid P1
  have p2 := Lib.hid P2
  have p3 := Lib.hid P3
  have p4 := Lib.hid P4
  clear P1 P2 P3 P4 hR hR' h1 h2 h3 h4
  have ix0 : ∀ w, (Instr.index 163 (.agg #[.int .i64 a, .int .i64 b]) (.int .i64 0)).run Tryd.prog w = .ok (.int .i64 a) w := fun _ => by kernel_rfl
  have ix1 : ∀ w, (Instr.index 163 (.agg #[.int .i64 a, .int .i64 b]) (.int .i64 1)).run Tryd.prog w = .ok (.int .i64 b) w := fun _ => by kernel_rfl
  have iy0 : ∀ w, (Instr.index 163 (.agg #[.int .i64 c, .int .i64 d]) (.int .i64 0)).run Tryd.prog w = .ok (.int .i64 c) w := fun _ => by kernel_rfl
  have iy1 : ∀ w, (Instr.index 163 (.agg #[.int .i64 c, .int .i64 d]) (.int .i64 1)).run Tryd.prog w = .ok (.int .i64 d) w := fun _ => by kernel_rfl
  have k0 := cells2i g0
  have k1 := cells2i g1
  have k2 := cells2i g2
  have f2 := free_of_block g2
  go_enter Tryd.func103, Tryd.ntmps103
  go_wp2_with fail
  generalize (((w.alloc (.cells #[.int .i64 a, .int .i64 b] 69)).alloc (.cells #[.int .i64 c, .int .i64 d] 69)).alloc (.cells #[.int .i64 0, .int .i64 0] 69)) = W at *
  refine wp_loop_rounds 3 ?_
  rw [rounds_succ]
  go_wp2_with fail
  refine wp_loop_rounds 3 ?_
  rw [rounds_succ]
  go_wp2_with fail
  refine (p1.out _).mono ?_
  rintro e w' ⟨rfl, m, rfl⟩
  replace hbW := below_drewN hbW m
  replace g1 : (W.drewN m).heap[w.heap.size + 1]? = _ := g1
  replace g2 : (W.drewN m).heap[w.heap.size + 1 + 1]? = _ := g2
  replace k1 := cells2i g1
  replace k2 := cells2i g2
  replace f2 := free_of_block g2
  clear g0 k0
  generalize W.drewN m = W1 at *
  cases r1 with
  | none =>
    simp only [pairV]
    obtain ⟨y0, y1⟩ := ret2i (A := 0) (B := 0) g2
    have hbe := below_sets2 hbW (show w.heap.size ≤ w.heap.size + 1 + 1 by omega) (.int .i64 0) (.int .i64 0)
    have hn : none = R := HR.out
    clear g2 hbW
    go_wp2_with fail
    subst hn
    exact bodyPost_ret (v := .tuple #[.agg #[.int .i64 0, .int .i64 0], .bool false]) (by simp [results, Tryd.results103, go_sem, y0, y1]) rfl ⟨rfl, hbe⟩
  | some r =>
    obtain ⟨l1, m1⟩ := r
    simp only [pairV]
    go_wp2_with fail
    rw [rounds_succ]
    go_wp2_with fail
    refine (p2.out _).mono ?_
    rintro e w' ⟨rfl, m, rfl⟩
    replace hbW := below_drewN hbW m
    replace g1 : (W1.drewN m).heap[w.heap.size + 1]? = _ := g1
    replace g2 : (W1.drewN m).heap[w.heap.size + 1 + 1]? = _ := g2
    replace k1 := cells2i g1
    replace k2 := cells2i g2
    replace f2 := free_of_block g2
    skip
    generalize W1.drewN m = W2 at *
    cases r2 with
    | none =>
      simp only [pairV]
      obtain ⟨y0, y1⟩ := ret2i (A := 0) (B := 0) g2
      have hbe := below_sets2 hbW (show w.heap.size ≤ w.heap.size + 1 + 1 by omega) (.int .i64 0) (.int .i64 0)
      have hn : none = R := HR.out
      clear g2 hbW
      go_wp2_with fail
      subst hn
      exact bodyPost_ret (v := .tuple #[.agg #[.int .i64 0, .int .i64 0], .bool false]) (by simp [results, Tryd.results103, go_sem, y0, y1]) rfl ⟨rfl, hbe⟩
    | some r =>
      obtain ⟨l2, m2⟩ := r
      simp only [pairV]
      go_wp2_with fail
      rw [rounds_succ]
      go_wp2_with fail
      rw [rounds_succ]
      go_wp2_with fail
      refine wp_loop_rounds 3 ?_
      rw [rounds_succ]
      go_wp2_with fail
      refine (p3.out _).mono ?_
      rintro e w' ⟨rfl, m, rfl⟩
      replace hbW := below_drewN hbW m
      replace g1 : (W2.drewN m).heap[w.heap.size + 1]? = _ := g1
      replace g2 : (W2.drewN m).heap[w.heap.size + 1 + 1]? = _ := g2
      replace k1 := cells2i g1
      replace k2 := cells2i g2
      replace f2 := free_of_block g2
      skip
      generalize W2.drewN m = W3 at *
      cases r3 with
      | none =>
        simp only [pairV]
        obtain ⟨y0, y1⟩ := ret2i (A := 0) (B := 0) g2
        have hbe := below_sets2 hbW (show w.heap.size ≤ w.heap.size + 1 + 1 by omega) (.int .i64 0) (.int .i64 0)
        have hn : none = R := HR.out
        clear g2 hbW
        go_wp2_with fail
        subst hn
        exact bodyPost_ret (v := .tuple #[.agg #[.int .i64 0, .int .i64 0], .bool false]) (by simp [results, Tryd.results103, go_sem, y0, y1]) rfl ⟨rfl, hbe⟩
      | some r =>
        obtain ⟨l3, m3⟩ := r
        simp only [pairV]
        go_wp2_with fail
        rw [rounds_succ]
        go_wp2_with fail
        refine (p4.out _).mono ?_
        rintro e w' ⟨rfl, m, rfl⟩
        replace hbW := below_drewN hbW m
        replace g1 : (W3.drewN m).heap[w.heap.size + 1]? = _ := g1
        replace g2 : (W3.drewN m).heap[w.heap.size + 1 + 1]? = _ := g2
        replace k1 := cells2i g1
        replace k2 := cells2i g2
        replace f2 := free_of_block g2
        skip
        generalize W3.drewN m = W4 at *
        cases r4 with
        | none =>
          simp only [pairV]
          obtain ⟨y0, y1⟩ := ret2i (A := 0) (B := 0) g2
          have hbe := below_sets2 hbW (show w.heap.size ≤ w.heap.size + 1 + 1 by omega) (.int .i64 0) (.int .i64 0)
          have hn : none = R := HR.out
          clear g2 hbW
          go_wp2_with fail
          subst hn
          exact bodyPost_ret (v := .tuple #[.agg #[.int .i64 0, .int .i64 0], .bool false]) (by simp [results, Tryd.results103, go_sem, y0, y1]) rfl ⟨rfl, hbe⟩
        | some r =>
          obtain ⟨l4, m4⟩ := r
          simp only [pairV]
          go_wp2_with fail
          rw [rounds_succ]
          go_wp2_with fail
          rw [rounds_succ]
          go_wp2_with fail
          refine (made21 _ _ _).mono ?_
          rintro e w1 ⟨rfl, hb1⟩
          have hr' : mkI (min (min (min (min 2305843009213693953 l1) l2) l3) l4) (max (max (max (max (-2305843009213693953) m1) m2) m3) m4) = R := HR.out
          have hr : mkI (min 2305843009213693953 (min l1 (min l2 (min l3 l4)))) (max (-2305843009213693953) (max m1 (max m2 (max m3 m4)))) = R := by rw [← hr']; congr 1 <;> omega
          clear hr'
          have Hr := Lib.hid hr
          have hB := below_trans' hbW hbW.size hb1
          have G2 := blk_below hb1 g2
          have q2 := cells2i G2
          have j2 := free_of_block G2
          clear hr k1 k2 f2 g1 g2 hbW
          obtain ⟨X, Y, ok, hX⟩ : ∃ X Y ok, resV R = .tuple #[.agg #[.int .i64 X, .int .i64 Y], .bool ok] := by
            cases R with
            | none => exact ⟨_, _, _, rfl⟩
            | some r => exact ⟨_, _, _, rfl⟩
          rw [Hr.out, hX]
          obtain ⟨y0, y1⟩ := ret2i (A := X) (B := Y) G2
          have hbe := below_sets2 hB (show w.heap.size ≤ w.heap.size + 1 + 1 by omega) (.int .i64 X) (.int .i64 Y)
          clear G2 hB hb1
          have HX := Lib.hid hX
          clear hX
          go_wp2_with fail
          exact bodyPost_ret (v := .tuple #[.agg #[.int .i64 X, .int .i64 Y], .bool ok]) (by simp [results, Tryd.results103, go_sem, y0, y1]) rfl ⟨congrArg Ending.returned HX.out.symm, hbe⟩

end Go.Proofs.YtpligjkbnlfhgaaDoor
