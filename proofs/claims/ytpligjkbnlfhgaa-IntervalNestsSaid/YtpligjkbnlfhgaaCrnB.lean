/- Corners, Mul, Div of the program, the sanity check; turned from another seat. No statement is proved here. -/
import Derived.Test.YtpligjkbnlfhgaaIntI
import Derived.Test.YtpligjkbnlfhgaaIntJ
import Derived.Test.YtpligjkbnlfhgaaIntE
import Derived.Test.YtpligjkbnlfhgaaIntD
import Derived.LoopN
namespace Go.Proofs.Ytpligjkbnlfhgaa
open Go.RowKit

theorem cells2i {w : World} {g : Nat} {x y : Value} {t : TypeId} (h : w.heap[g]? = some (.cells #[x, y] t (0, 0))) : w.cell? ⟨g, 0, none⟩ = some x ∧ w.cell? ⟨g, 1, none⟩ = some y := ⟨cell_of_block h 0, cell_of_block h 1⟩
theorem ret2i {wv : World} {z : Nat} {a b A B : Int} (hg : wv.heap[z]? = some (.cells #[.int .i64 a, .int .i64 b] 23 (0, 0))) :
    ((wv.setCell ⟨z, 0, none⟩ (.int .i64 A)).setCell ⟨z, 1, none⟩ (.int .i64 B)).cell? ⟨z, 0, none⟩ = some (.int .i64 A) ∧ ((wv.setCell ⟨z, 0, none⟩ (.int .i64 A)).setCell ⟨z, 1, none⟩ (.int .i64 B)).cell? ⟨z, 1, none⟩ = some (.int .i64 B) :=
  cells2i (block_set (block_set hg 0 _) 1 _)

theorem below_sets2 {n z : Nat} {w wv : World} (h : Below n w wv) (hz : n ≤ z) (a b : Value) : Below n w ((wv.setCell ⟨z, 0, none⟩ a).setCell ⟨z, 1, none⟩ b) :=
  (h.setCell (p := ⟨z, 0, none⟩) hz _).setCell (p := ⟨z, 1, none⟩) hz _
theorem blk_below {W w' : World} {b : Nat} {o : Obj} (hb : Below W.heap.size W w') (g : W.heap[b]? = some o) : w'.heap[b]? = some o := by rw [hb.block _ (lt_of_blk g)]; exact g

def cornP (f : Int → Int → IR) (a b c d : Int) : IR := (hull4 2305843009213693953 (-2305843009213693953) (corners f a b c d)).bind fun p => mkI p.1 p.2
theorem cornP_fit {f : Int → Int → IR} {a b c d : Int} (hle : ∀ x y p q, f x y = some (p, q) → p ≤ q) : cornP f a b c d = hull4 2305843009213693952 (-2305843009213693952) ((corners f a b c d).map fitI) := by
  refine hull4_fit (corners f a b c d) _ _ _ _ (fun p q hm => ?_) (.inr ⟨by simp [corners], rfl, rfl, rfl, rfl⟩)
  simp only [corners, List.mem_cons, List.not_mem_nil, or_false] at hm
  rcases hm with h | h | h | h <;> exact hle _ _ _ _ h.symm

set_option maxRecDepth 100000 in
set_option maxHeartbeats 8000000 in
theorem corners_product (a b c d : Int) (w : World) (ha : -2305843009213693952 ≤ a ∧ a ≤ 2305843009213693952) (hb : -2305843009213693952 ≤ b ∧ b ≤ 2305843009213693952) (hc : -2305843009213693952 ≤ c ∧ c ≤ 2305843009213693952) (hd : -2305843009213693952 ≤ d ∧ d ≤ 2305843009213693952) :
    Calls Try.prog 23 #[.agg #[.int .i64 a, .int .i64 b], .agg #[.int .i64 c, .int .i64 d], .func (Fn.func 24) #[] #[]] w fun e w' => e = .returned (resV (cornP prodI a b c d)) ∧ Below w.heap.size w w' := by
  obtain ⟨R, hR⟩ : ∃ R, cornP prodI a b c d = R := ⟨_, rfl⟩
  rw [hR]
  obtain ⟨hbW, g0, g1, g2⟩ := allocs3 w (ivA a b) (ivA c d) #[.int .i64 0, .int .i64 0] 23 23 23
  unfold ivA at *
  have P1 := fun w => product24 a c w ha hc
  have P2 := fun w => product24 a d w ha hd
  have P3 := fun w => product24 b c w hb hc
  have P4 := fun w => product24 b d w hb hd
  have hR' : (hull4 2305843009213693953 (-2305843009213693953) [prodI a c, prodI a d, prodI b c, prodI b d]).bind (fun p => mkI p.1 p.2) = R := hR
  obtain ⟨r1, h1⟩ : ∃ r, prodI a c = r := ⟨_, rfl⟩
  obtain ⟨r2, h2⟩ : ∃ r, prodI a d = r := ⟨_, rfl⟩
  obtain ⟨r3, h3⟩ : ∃ r, prodI b c = r := ⟨_, rfl⟩
  obtain ⟨r4, h4⟩ : ∃ r, prodI b d = r := ⟨_, rfl⟩
  rw [h1] at P1 hR'
  rw [h2] at P2 hR'
  rw [h3] at P3 hR'
  rw [h4] at P4 hR'
  have HR := Lib.hid hR'
  have p1 := Lib.hid P1
  have p2 := Lib.hid P2
  have p3 := Lib.hid P3
  have p4 := Lib.hid P4
  clear P1 P2 P3 P4 hR hR' h1 h2 h3 h4
  have ix0 : ∀ w, (Instr.index 43 (.agg #[.int .i64 a, .int .i64 b]) (.int .i64 0)).run Try.prog w = .ok (.int .i64 a) w := fun _ => by kernel_rfl
  have ix1 : ∀ w, (Instr.index 43 (.agg #[.int .i64 a, .int .i64 b]) (.int .i64 1)).run Try.prog w = .ok (.int .i64 b) w := fun _ => by kernel_rfl
  have iy0 : ∀ w, (Instr.index 43 (.agg #[.int .i64 c, .int .i64 d]) (.int .i64 0)).run Try.prog w = .ok (.int .i64 c) w := fun _ => by kernel_rfl
  have iy1 : ∀ w, (Instr.index 43 (.agg #[.int .i64 c, .int .i64 d]) (.int .i64 1)).run Try.prog w = .ok (.int .i64 d) w := fun _ => by kernel_rfl
  have k0 := cells2i g0
  have k1 := cells2i g1
  have k2 := cells2i g2
  have f2 := free_of_block g2
  go_enter Try.func23, Try.ntmps23
  go_wp2_with fail
  generalize (((w.alloc (.cells #[.int .i64 a, .int .i64 b] 23)).alloc (.cells #[.int .i64 c, .int .i64 d] 23)).alloc (.cells #[.int .i64 0, .int .i64 0] 23)) = W at *
  refine wp_loop_rounds 3 ?_
  rw [rounds_succ]
  go_wp2_with fail
  refine wp_loop_rounds 3 ?_
  rw [rounds_succ]
  go_wp2_with fail
  refine (p1.out _).mono ?_
  rintro e w' ⟨rfl, rfl⟩
  cases r1 with
  | none =>
    simp only [pairV]
    obtain ⟨y0, y1⟩ := ret2i (A := 0) (B := 0) g2
    have hbe := below_sets2 hbW (show w.heap.size ≤ w.heap.size + 1 + 1 by omega) (.int .i64 0) (.int .i64 0)
    have hn : none = R := HR.out
    clear g2 hbW
    go_wp2_with fail
    subst hn
    exact bodyPost_ret (v := .tuple #[.agg #[.int .i64 0, .int .i64 0], .bool false]) (by simp [results, Try.results23, go_sem, y0, y1]) rfl ⟨rfl, hbe⟩
  | some r =>
    obtain ⟨l1, m1⟩ := r
    simp only [pairV]
    go_wp2_with fail
    rw [rounds_succ]
    go_wp2_with fail
    refine (p2.out _).mono ?_
    rintro e w' ⟨rfl, rfl⟩
    cases r2 with
    | none =>
      simp only [pairV]
      obtain ⟨y0, y1⟩ := ret2i (A := 0) (B := 0) g2
      have hbe := below_sets2 hbW (show w.heap.size ≤ w.heap.size + 1 + 1 by omega) (.int .i64 0) (.int .i64 0)
      have hn : none = R := HR.out
      clear g2 hbW
      go_wp2_with fail
      subst hn
      exact bodyPost_ret (v := .tuple #[.agg #[.int .i64 0, .int .i64 0], .bool false]) (by simp [results, Try.results23, go_sem, y0, y1]) rfl ⟨rfl, hbe⟩
    | some r =>
      obtain ⟨l2, m2⟩ := r
      simp only [pairV]
      go_wp2_with fail
      rw [rounds_succ]
      go_wp2_with fail
      rw [rounds_succ]
      go_wp2_with fail
      refine wp_loop_rounds 3 ?_
      rw [rounds_succ]
      go_wp2_with fail
      refine (p3.out _).mono ?_
      rintro e w' ⟨rfl, rfl⟩
      cases r3 with
      | none =>
        simp only [pairV]
        obtain ⟨y0, y1⟩ := ret2i (A := 0) (B := 0) g2
        have hbe := below_sets2 hbW (show w.heap.size ≤ w.heap.size + 1 + 1 by omega) (.int .i64 0) (.int .i64 0)
        have hn : none = R := HR.out
        clear g2 hbW
        go_wp2_with fail
        subst hn
        exact bodyPost_ret (v := .tuple #[.agg #[.int .i64 0, .int .i64 0], .bool false]) (by simp [results, Try.results23, go_sem, y0, y1]) rfl ⟨rfl, hbe⟩
      | some r =>
        obtain ⟨l3, m3⟩ := r
        simp only [pairV]
        go_wp2_with fail
        rw [rounds_succ]
        go_wp2_with fail
        refine (p4.out _).mono ?_
        rintro e w' ⟨rfl, rfl⟩
        cases r4 with
        | none =>
          simp only [pairV]
          obtain ⟨y0, y1⟩ := ret2i (A := 0) (B := 0) g2
          have hbe := below_sets2 hbW (show w.heap.size ≤ w.heap.size + 1 + 1 by omega) (.int .i64 0) (.int .i64 0)
          have hn : none = R := HR.out
          clear g2 hbW
          go_wp2_with fail
          subst hn
          exact bodyPost_ret (v := .tuple #[.agg #[.int .i64 0, .int .i64 0], .bool false]) (by simp [results, Try.results23, go_sem, y0, y1]) rfl ⟨rfl, hbe⟩
        | some r =>
          obtain ⟨l4, m4⟩ := r
          simp only [pairV]
          go_wp2_with fail
          rw [rounds_succ]
          go_wp2_with fail
          rw [rounds_succ]
          go_wp2_with fail
          refine (made21 _ _ _).mono ?_
          rintro e w1 ⟨rfl, hb1⟩
          have hr' : mkI (min (min (min (min 2305843009213693953 l1) l2) l3) l4) (max (max (max (max (-2305843009213693953) m1) m2) m3) m4) = R := HR.out
          have hr : mkI (min 2305843009213693953 (min l1 (min l2 (min l3 l4)))) (max (-2305843009213693953) (max m1 (max m2 (max m3 m4)))) = R := by rw [← hr']; congr 1 <;> omega
          clear hr'
          have Hr := Lib.hid hr
          have hB := below_trans' hbW hbW.size hb1
          have G2 := blk_below hb1 g2
          have q2 := cells2i G2
          have j2 := free_of_block G2
          clear hr k1 k2 f2 g1 g2 hbW
          obtain ⟨X, Y, ok, hX⟩ : ∃ X Y ok, resV R = .tuple #[.agg #[.int .i64 X, .int .i64 Y], .bool ok] := by
            cases R with
            | none => exact ⟨_, _, _, rfl⟩
            | some r => exact ⟨_, _, _, rfl⟩
          rw [Hr.out, hX]
          obtain ⟨y0, y1⟩ := ret2i (A := X) (B := Y) G2
          have hbe := below_sets2 hB (show w.heap.size ≤ w.heap.size + 1 + 1 by omega) (.int .i64 X) (.int .i64 Y)
          clear G2 hB hb1
          have HX := Lib.hid hX
          clear hX
          go_wp2_with fail
          exact bodyPost_ret (v := .tuple #[.agg #[.int .i64 X, .int .i64 Y], .bool ok]) (by simp [results, Try.results23, go_sem, y0, y1]) rfl ⟨congrArg Ending.returned HX.out.symm, hbe⟩

set_option maxRecDepth 100000 in
set_option maxHeartbeats 8000000 in
theorem corners_quotient (a b c d : Int) (w : World) (ha : -2305843009213693952 ≤ a ∧ a ≤ 2305843009213693952) (hb : -2305843009213693952 ≤ b ∧ b ≤ 2305843009213693952) (hc : -2305843009213693952 ≤ c ∧ c ≤ 2305843009213693952) (hd : -2305843009213693952 ≤ d ∧ d ≤ 2305843009213693952) (hc0 : c ≠ 0) (hd0 : d ≠ 0) :
    Calls Try.prog 23 #[.agg #[.int .i64 a, .int .i64 b], .agg #[.int .i64 c, .int .i64 d], .func (Fn.func 32) #[] #[]] w fun e w' => e = .returned (resV (cornP quotI a b c d)) ∧ Below w.heap.size w w' := by
  obtain ⟨R, hR⟩ : ∃ R, cornP quotI a b c d = R := ⟨_, rfl⟩
  rw [hR]
  obtain ⟨hbW, g0, g1, g2⟩ := allocs3 w (ivA a b) (ivA c d) #[.int .i64 0, .int .i64 0] 23 23 23
  unfold ivA at *
  have P1 := fun w => quotient32 a c w ha hc hc0
  have P2 := fun w => quotient32 a d w ha hd hd0
  have P3 := fun w => quotient32 b c w hb hc hc0
  have P4 := fun w => quotient32 b d w hb hd hd0
  have hR' : (hull4 2305843009213693953 (-2305843009213693953) [quotI a c, quotI a d, quotI b c, quotI b d]).bind (fun p => mkI p.1 p.2) = R := hR
  obtain ⟨r1, h1⟩ : ∃ r, quotI a c = r := ⟨_, rfl⟩
  obtain ⟨r2, h2⟩ : ∃ r, quotI a d = r := ⟨_, rfl⟩
  obtain ⟨r3, h3⟩ : ∃ r, quotI b c = r := ⟨_, rfl⟩
  obtain ⟨r4, h4⟩ : ∃ r, quotI b d = r := ⟨_, rfl⟩
  rw [h1] at P1 hR'
  rw [h2] at P2 hR'
  rw [h3] at P3 hR'
  rw [h4] at P4 hR'
  have HR := Lib.hid hR'
  have p1 := Lib.hid P1
  have p2 := Lib.hid P2
  have p3 := Lib.hid P3
  have p4 := Lib.hid P4
  clear P1 P2 P3 P4 hR hR' h1 h2 h3 h4
  have ix0 : ∀ w, (Instr.index 43 (.agg #[.int .i64 a, .int .i64 b]) (.int .i64 0)).run Try.prog w = .ok (.int .i64 a) w := fun _ => by kernel_rfl
  have ix1 : ∀ w, (Instr.index 43 (.agg #[.int .i64 a, .int .i64 b]) (.int .i64 1)).run Try.prog w = .ok (.int .i64 b) w := fun _ => by kernel_rfl
  have iy0 : ∀ w, (Instr.index 43 (.agg #[.int .i64 c, .int .i64 d]) (.int .i64 0)).run Try.prog w = .ok (.int .i64 c) w := fun _ => by kernel_rfl
  have iy1 : ∀ w, (Instr.index 43 (.agg #[.int .i64 c, .int .i64 d]) (.int .i64 1)).run Try.prog w = .ok (.int .i64 d) w := fun _ => by kernel_rfl
  have k0 := cells2i g0
  have k1 := cells2i g1
  have k2 := cells2i g2
  have f2 := free_of_block g2
  go_enter Try.func23, Try.ntmps23
  go_wp2_with fail
  generalize (((w.alloc (.cells #[.int .i64 a, .int .i64 b] 23)).alloc (.cells #[.int .i64 c, .int .i64 d] 23)).alloc (.cells #[.int .i64 0, .int .i64 0] 23)) = W at *
  refine wp_loop_rounds 3 ?_
  rw [rounds_succ]
  go_wp2_with fail
  refine wp_loop_rounds 3 ?_
  rw [rounds_succ]
  go_wp2_with fail
  refine (p1.out _).mono ?_
  rintro e w' ⟨rfl, m, rfl⟩
  replace hbW := below_drewN hbW m
  replace g1 : (W.drewN m).heap[w.heap.size + 1]? = _ := g1
  replace g2 : (W.drewN m).heap[w.heap.size + 1 + 1]? = _ := g2
  replace k1 := cells2i g1
  replace k2 := cells2i g2
  replace f2 := free_of_block g2
  clear g0 k0
  generalize W.drewN m = W1 at *
  cases r1 with
  | none =>
    simp only [pairV]
    obtain ⟨y0, y1⟩ := ret2i (A := 0) (B := 0) g2
    have hbe := below_sets2 hbW (show w.heap.size ≤ w.heap.size + 1 + 1 by omega) (.int .i64 0) (.int .i64 0)
    have hn : none = R := HR.out
    clear g2 hbW
    go_wp2_with fail
    subst hn
    exact bodyPost_ret (v := .tuple #[.agg #[.int .i64 0, .int .i64 0], .bool false]) (by simp [results, Try.results23, go_sem, y0, y1]) rfl ⟨rfl, hbe⟩
  | some r =>
    obtain ⟨l1, m1⟩ := r
    simp only [pairV]
    go_wp2_with fail
    rw [rounds_succ]
    go_wp2_with fail
    refine (p2.out _).mono ?_
    rintro e w' ⟨rfl, m, rfl⟩
    replace hbW := below_drewN hbW m
    replace g1 : (W1.drewN m).heap[w.heap.size + 1]? = _ := g1
    replace g2 : (W1.drewN m).heap[w.heap.size + 1 + 1]? = _ := g2
    replace k1 := cells2i g1
    replace k2 := cells2i g2
    replace f2 := free_of_block g2
    skip
    generalize W1.drewN m = W2 at *
    cases r2 with
    | none =>
      simp only [pairV]
      obtain ⟨y0, y1⟩ := ret2i (A := 0) (B := 0) g2
      have hbe := below_sets2 hbW (show w.heap.size ≤ w.heap.size + 1 + 1 by omega) (.int .i64 0) (.int .i64 0)
      have hn : none = R := HR.out
      clear g2 hbW
      go_wp2_with fail
      subst hn
      exact bodyPost_ret (v := .tuple #[.agg #[.int .i64 0, .int .i64 0], .bool false]) (by simp [results, Try.results23, go_sem, y0, y1]) rfl ⟨rfl, hbe⟩
    | some r =>
      obtain ⟨l2, m2⟩ := r
      simp only [pairV]
      go_wp2_with fail
      rw [rounds_succ]
      go_wp2_with fail
      rw [rounds_succ]
      go_wp2_with fail
      refine wp_loop_rounds 3 ?_
      rw [rounds_succ]
      go_wp2_with fail
      refine (p3.out _).mono ?_
      rintro e w' ⟨rfl, m, rfl⟩
      replace hbW := below_drewN hbW m
      replace g1 : (W2.drewN m).heap[w.heap.size + 1]? = _ := g1
      replace g2 : (W2.drewN m).heap[w.heap.size + 1 + 1]? = _ := g2
      replace k1 := cells2i g1
      replace k2 := cells2i g2
      replace f2 := free_of_block g2
      skip
      generalize W2.drewN m = W3 at *
      cases r3 with
      | none =>
        simp only [pairV]
        obtain ⟨y0, y1⟩ := ret2i (A := 0) (B := 0) g2
        have hbe := below_sets2 hbW (show w.heap.size ≤ w.heap.size + 1 + 1 by omega) (.int .i64 0) (.int .i64 0)
        have hn : none = R := HR.out
        clear g2 hbW
        go_wp2_with fail
        subst hn
        exact bodyPost_ret (v := .tuple #[.agg #[.int .i64 0, .int .i64 0], .bool false]) (by simp [results, Try.results23, go_sem, y0, y1]) rfl ⟨rfl, hbe⟩
      | some r =>
        obtain ⟨l3, m3⟩ := r
        simp only [pairV]
        go_wp2_with fail
        rw [rounds_succ]
        go_wp2_with fail
        refine (p4.out _).mono ?_
        rintro e w' ⟨rfl, m, rfl⟩
        replace hbW := below_drewN hbW m
        replace g1 : (W3.drewN m).heap[w.heap.size + 1]? = _ := g1
        replace g2 : (W3.drewN m).heap[w.heap.size + 1 + 1]? = _ := g2
        replace k1 := cells2i g1
        replace k2 := cells2i g2
        replace f2 := free_of_block g2
        skip
        generalize W3.drewN m = W4 at *
        cases r4 with
        | none =>
          simp only [pairV]
          obtain ⟨y0, y1⟩ := ret2i (A := 0) (B := 0) g2
          have hbe := below_sets2 hbW (show w.heap.size ≤ w.heap.size + 1 + 1 by omega) (.int .i64 0) (.int .i64 0)
          have hn : none = R := HR.out
          clear g2 hbW
          go_wp2_with fail
          subst hn
          exact bodyPost_ret (v := .tuple #[.agg #[.int .i64 0, .int .i64 0], .bool false]) (by simp [results, Try.results23, go_sem, y0, y1]) rfl ⟨rfl, hbe⟩
        | some r =>
          obtain ⟨l4, m4⟩ := r
          simp only [pairV]
          go_wp2_with fail
          rw [rounds_succ]
          go_wp2_with fail
          rw [rounds_succ]
          go_wp2_with fail
          refine (made21 _ _ _).mono ?_
          rintro e w1 ⟨rfl, hb1⟩
          have hr' : mkI (min (min (min (min 2305843009213693953 l1) l2) l3) l4) (max (max (max (max (-2305843009213693953) m1) m2) m3) m4) = R := HR.out
          have hr : mkI (min 2305843009213693953 (min l1 (min l2 (min l3 l4)))) (max (-2305843009213693953) (max m1 (max m2 (max m3 m4)))) = R := by rw [← hr']; congr 1 <;> omega
          clear hr'
          have Hr := Lib.hid hr
          have hB := below_trans' hbW hbW.size hb1
          have G2 := blk_below hb1 g2
          have q2 := cells2i G2
          have j2 := free_of_block G2
          clear hr k1 k2 f2 g1 g2 hbW
          obtain ⟨X, Y, ok, hX⟩ : ∃ X Y ok, resV R = .tuple #[.agg #[.int .i64 X, .int .i64 Y], .bool ok] := by
            cases R with
            | none => exact ⟨_, _, _, rfl⟩
            | some r => exact ⟨_, _, _, rfl⟩
          rw [Hr.out, hX]
          obtain ⟨y0, y1⟩ := ret2i (A := X) (B := Y) G2
          have hbe := below_sets2 hB (show w.heap.size ≤ w.heap.size + 1 + 1 by omega) (.int .i64 X) (.int .i64 Y)
          clear G2 hB hb1
          have HX := Lib.hid hX
          clear hX
          go_wp2_with fail
          exact bodyPost_ret (v := .tuple #[.agg #[.int .i64 X, .int .i64 Y], .bool ok]) (by simp [results, Try.results23, go_sem, y0, y1]) rfl ⟨congrArg Ending.returned HX.out.symm, hbe⟩


set_option maxRecDepth 100000 in
set_option maxHeartbeats 4000000 in
theorem mul56 (a b c d : Int) (w : World) : Calls Try.prog 13 #[.agg #[.int .i64 a, .int .i64 b], .agg #[.int .i64 c, .int .i64 d]] w fun e w' => e = .returned (resV (mulI a b c d)) ∧ Below w.heap.size w w' := by
  obtain ⟨hbW, g0, g1, g2⟩ := allocs3 w (ivA a b) (ivA c d) #[.int .i64 0, .int .i64 0] 23 23 23
  unfold ivA at *
  have k0 := cells2i g0
  have k1 := cells2i g1
  obtain ⟨R, hR⟩ : ∃ R, mulI a b c d = R := ⟨_, rfl⟩
  rw [hR]
  have hbo := both20 a b c d
  obtain ⟨o, ho⟩ : ∃ o, (inI a b && inI c d) = o := ⟨_, rfl⟩
  rw [ho] at hbo
  have HBo := Lib.hid hbo
  clear hbo
  cases o with
  | false =>
    have e1 : R = none := by
      rw [← hR]; unfold mulI
      rw [if_neg (by intro hh; rw [hh.1, hh.2] at ho; cases ho)]
    have E1 := Lib.hid e1
    clear e1 hR ho
    go_enter Try.func13, Try.ntmps13
    go_wp2_with fail
    generalize (((w.alloc (.cells #[.int .i64 a, .int .i64 b] 23)).alloc (.cells #[.int .i64 c, .int .i64 d] 23)).alloc (.cells #[.int .i64 0, .int .i64 0] 23)) = W at *
    refine (HBo.out W).mono ?_
    rintro e w1 ⟨rfl, hb1⟩
    have hB := below_trans' hbW hbW.size hb1
    replace g0 := blk_below hb1 g0
    replace g1 := blk_below hb1 g1
    replace g2 := blk_below hb1 g2
    replace k0 := cells2i g0
    replace k1 := cells2i g1
    have k2 := cells2i g2
    have f2 := free_of_block g2
    clear hbW
    obtain ⟨y0, y1⟩ := ret2i (A := 0) (B := 0) g2
    have hbe := below_sets2 hB (show w.heap.size ≤ w.heap.size + 1 + 1 by omega) (.int .i64 0) (.int .i64 0)
    clear hB hb1
    go_wp2_with fail
    exact bodyPost_ret (v := .tuple #[.agg #[.int .i64 0, .int .i64 0], .bool false]) (by simp [results, Try.results13, go_sem, y0, y1]) rfl ⟨by rw [E1.out]; rfl, hbe⟩
  | true =>
    have h12 : inI a b = true ∧ inI c d = true := by simpa using ho
    have hi1 := inI_iff.1 h12.1
    have hi2 := inI_iff.1 h12.2
    have e1 : cornP prodI a b c d = R := by
      rw [← hR]; unfold mulI
      rw [if_pos h12, cornP_fit fun x y p q => prodI_le]
    have E1 := Lib.hid e1
    have ha : -2305843009213693952 ≤ a ∧ a ≤ 2305843009213693952 := by omega
    have hb : -2305843009213693952 ≤ b ∧ b ≤ 2305843009213693952 := by omega
    have hc : -2305843009213693952 ≤ c ∧ c ≤ 2305843009213693952 := by omega
    have hd : -2305843009213693952 ≤ d ∧ d ≤ 2305843009213693952 := by omega
    clear e1 hR ho h12
    go_enter Try.func13, Try.ntmps13
    go_wp2_with fail
    generalize (((w.alloc (.cells #[.int .i64 a, .int .i64 b] 23)).alloc (.cells #[.int .i64 c, .int .i64 d] 23)).alloc (.cells #[.int .i64 0, .int .i64 0] 23)) = W at *
    refine (HBo.out W).mono ?_
    rintro e w1 ⟨rfl, hb1⟩
    have hB := below_trans' hbW hbW.size hb1
    replace g0 := blk_below hb1 g0
    replace g1 := blk_below hb1 g1
    replace g2 := blk_below hb1 g2
    replace k0 := cells2i g0
    replace k1 := cells2i g1
    have k2 := cells2i g2
    have f2 := free_of_block g2
    clear hbW
    go_wp2_with fail
    refine (corners_product a b c d _ ha hb hc hd).mono ?_
    rintro e w2 ⟨rfl, hb2⟩
    have hB2 := below_trans' hB hB.size hb2
    have G2 := blk_below hb2 g2
    have q2 := cells2i G2
    have j2 := free_of_block G2
    obtain ⟨X, Y, ok, hX⟩ : ∃ X Y ok, resV R = .tuple #[.agg #[.int .i64 X, .int .i64 Y], .bool ok] := by
      cases R with
      | none => exact ⟨_, _, _, rfl⟩
      | some r => exact ⟨_, _, _, rfl⟩
    rw [E1.out, hX]
    obtain ⟨y0, y1⟩ := ret2i (A := X) (B := Y) G2
    have hbe := below_sets2 hB2 (show w.heap.size ≤ w.heap.size + 1 + 1 by omega) (.int .i64 X) (.int .i64 Y)
    clear G2 hB hB2 hb1 hb2 k0 k1 g0 g1 g2 f2
    have HX := Lib.hid hX
    clear hX
    go_wp2_with fail
    exact bodyPost_ret (v := .tuple #[.agg #[.int .i64 X, .int .i64 Y], .bool ok]) (by simp [results, Try.results13, go_sem, y0, y1]) rfl ⟨congrArg Ending.returned HX.out.symm, hbe⟩

set_option maxRecDepth 100000 in
set_option maxHeartbeats 4000000 in
theorem div57 (a b c d : Int) (w : World) : Calls Try.prog 19 #[.agg #[.int .i64 a, .int .i64 b], .agg #[.int .i64 c, .int .i64 d]] w fun e w' => e = .returned (resV (divI a b c d)) ∧ Below w.heap.size w w' := by
  obtain ⟨hbW, g0, g1, g2⟩ := allocs3 w (ivA a b) (ivA c d) #[.int .i64 0, .int .i64 0] 23 23 23
  unfold ivA at *
  have k0 := cells2i g0
  have k1 := cells2i g1
  obtain ⟨R, hR⟩ : ∃ R, divI a b c d = R := ⟨_, rfl⟩
  rw [hR]
  have hbo := both20 a b c d
  obtain ⟨o, ho⟩ : ∃ o, (inI a b && inI c d) = o := ⟨_, rfl⟩
  rw [ho] at hbo
  have HBo := Lib.hid hbo
  clear hbo
  cases o with
  | false =>
    have e1 : R = none := by
      rw [← hR]; unfold divI
      rw [if_neg (by intro hh; rw [hh.1, hh.2] at ho; cases ho)]
    have E1 := Lib.hid e1
    clear e1 hR ho
    go_enter Try.func19, Try.ntmps19
    go_wp2_with fail
    generalize (((w.alloc (.cells #[.int .i64 a, .int .i64 b] 23)).alloc (.cells #[.int .i64 c, .int .i64 d] 23)).alloc (.cells #[.int .i64 0, .int .i64 0] 23)) = W at *
    refine (HBo.out W).mono ?_
    rintro e w1 ⟨rfl, hb1⟩
    have hB := below_trans' hbW hbW.size hb1
    replace g0 := blk_below hb1 g0
    replace g1 := blk_below hb1 g1
    replace g2 := blk_below hb1 g2
    replace k0 := cells2i g0
    replace k1 := cells2i g1
    have k2 := cells2i g2
    have f2 := free_of_block g2
    clear hbW
    obtain ⟨y0, y1⟩ := ret2i (A := 0) (B := 0) g2
    have hbe := below_sets2 hB (show w.heap.size ≤ w.heap.size + 1 + 1 by omega) (.int .i64 0) (.int .i64 0)
    clear hB hb1
    go_wp2_with fail
    exact bodyPost_ret (v := .tuple #[.agg #[.int .i64 0, .int .i64 0], .bool false]) (by simp [results, Try.results19, go_sem, y0, y1]) rfl ⟨by rw [E1.out]; rfl, hbe⟩
  | true =>
    have h12 : inI a b = true ∧ inI c d = true := by simpa using ho
    have hi1 := inI_iff.1 h12.1
    have hi2 := inI_iff.1 h12.2
    have ha : -2305843009213693952 ≤ a ∧ a ≤ 2305843009213693952 := by omega
    have hb : -2305843009213693952 ≤ b ∧ b ≤ 2305843009213693952 := by omega
    have hc : -2305843009213693952 ≤ c ∧ c ≤ 2305843009213693952 := by omega
    have hd : -2305843009213693952 ≤ d ∧ d ≤ 2305843009213693952 := by omega
    by_cases hz : c ≤ 0 ∧ 0 ≤ d
    · have e1 : R = none := by
        rw [← hR]; unfold divI
        rw [if_pos h12, if_pos hz]
      have E1 := Lib.hid e1
      obtain ⟨z1, z2⟩ := hz
      clear e1 hR ho h12
      go_enter Try.func19, Try.ntmps19
      go_wp2_with fail
      generalize (((w.alloc (.cells #[.int .i64 a, .int .i64 b] 23)).alloc (.cells #[.int .i64 c, .int .i64 d] 23)).alloc (.cells #[.int .i64 0, .int .i64 0] 23)) = W at *
      refine (HBo.out W).mono ?_
      rintro e w1 ⟨rfl, hb1⟩
      have hB := below_trans' hbW hbW.size hb1
      replace g0 := blk_below hb1 g0
      replace g1 := blk_below hb1 g1
      replace g2 := blk_below hb1 g2
      replace k0 := cells2i g0
      replace k1 := cells2i g1
      have k2 := cells2i g2
      have f2 := free_of_block g2
      clear hbW
      obtain ⟨y0, y1⟩ := ret2i (A := 0) (B := 0) g2
      have hbe := below_sets2 hB (show w.heap.size ≤ w.heap.size + 1 + 1 by omega) (.int .i64 0) (.int .i64 0)
      clear hB hb1
      go_wp2_with fail
      exact bodyPost_ret (v := .tuple #[.agg #[.int .i64 0, .int .i64 0], .bool false]) (by simp [results, Try.results19, go_sem, y0, y1]) rfl ⟨by rw [E1.out]; rfl, hbe⟩
    · have e1 : cornP quotI a b c d = R := by
        rw [← hR]; unfold divI
        rw [if_pos h12, if_neg hz, cornP_fit fun x y p q => quotI_le]
      have E1 := Lib.hid e1
      have hc0 : c ≠ 0 := by omega
      have hd0 : d ≠ 0 := by omega
      have HC0 := Lib.hid hc0
      have HD0 := Lib.hid hd0
      clear e1 hR ho h12 hc0 hd0
      by_cases hcp : c ≤ 0
      · have hdp : d < 0 := by omega
        have hdp' : decide (0 ≤ d) = false := decide_eq_false (by omega)
        clear hz
        go_enter Try.func19, Try.ntmps19
        go_wp2_with fail
        generalize (((w.alloc (.cells #[.int .i64 a, .int .i64 b] 23)).alloc (.cells #[.int .i64 c, .int .i64 d] 23)).alloc (.cells #[.int .i64 0, .int .i64 0] 23)) = W at *
        refine (HBo.out W).mono ?_
        rintro e w1 ⟨rfl, hb1⟩
        have hB := below_trans' hbW hbW.size hb1
        replace g0 := blk_below hb1 g0
        replace g1 := blk_below hb1 g1
        replace g2 := blk_below hb1 g2
        replace k0 := cells2i g0
        replace k1 := cells2i g1
        have k2 := cells2i g2
        have f2 := free_of_block g2
        clear hbW
        go_wp2_with fail
        refine (corners_quotient a b c d _ ha hb hc hd HC0.out HD0.out).mono ?_
        rintro e w2 ⟨rfl, hb2⟩
        have hB2 := below_trans' hB hB.size hb2
        have G2 := blk_below hb2 g2
        have q2 := cells2i G2
        have j2 := free_of_block G2
        obtain ⟨X, Y, ok, hX⟩ : ∃ X Y ok, resV R = .tuple #[.agg #[.int .i64 X, .int .i64 Y], .bool ok] := by
          cases R with
          | none => exact ⟨_, _, _, rfl⟩
          | some r => exact ⟨_, _, _, rfl⟩
        rw [E1.out, hX]
        obtain ⟨y0, y1⟩ := ret2i (A := X) (B := Y) G2
        have hbe := below_sets2 hB2 (show w.heap.size ≤ w.heap.size + 1 + 1 by omega) (.int .i64 X) (.int .i64 Y)
        clear G2 hB hB2 hb1 hb2 k0 k1 g0 g1 g2 f2
        have HX := Lib.hid hX
        clear hX
        go_wp2_with fail
        exact bodyPost_ret (v := .tuple #[.agg #[.int .i64 X, .int .i64 Y], .bool ok]) (by simp [results, Try.results19, go_sem, y0, y1]) rfl ⟨congrArg Ending.returned HX.out.symm, hbe⟩
      · have hcp' : 0 < c := by omega
        clear hz
        go_enter Try.func19, Try.ntmps19
        go_wp2_with fail
        generalize (((w.alloc (.cells #[.int .i64 a, .int .i64 b] 23)).alloc (.cells #[.int .i64 c, .int .i64 d] 23)).alloc (.cells #[.int .i64 0, .int .i64 0] 23)) = W at *
        refine (HBo.out W).mono ?_
        rintro e w1 ⟨rfl, hb1⟩
        have hB := below_trans' hbW hbW.size hb1
        replace g0 := blk_below hb1 g0
        replace g1 := blk_below hb1 g1
        replace g2 := blk_below hb1 g2
        replace k0 := cells2i g0
        replace k1 := cells2i g1
        have k2 := cells2i g2
        have f2 := free_of_block g2
        clear hbW
        go_wp2_with fail
        refine (corners_quotient a b c d _ ha hb hc hd HC0.out HD0.out).mono ?_
        rintro e w2 ⟨rfl, hb2⟩
        have hB2 := below_trans' hB hB.size hb2
        have G2 := blk_below hb2 g2
        have q2 := cells2i G2
        have j2 := free_of_block G2
        obtain ⟨X, Y, ok, hX⟩ : ∃ X Y ok, resV R = .tuple #[.agg #[.int .i64 X, .int .i64 Y], .bool ok] := by
          cases R with
          | none => exact ⟨_, _, _, rfl⟩
          | some r => exact ⟨_, _, _, rfl⟩
        rw [E1.out, hX]
        obtain ⟨y0, y1⟩ := ret2i (A := X) (B := Y) G2
        have hbe := below_sets2 hB2 (show w.heap.size ≤ w.heap.size + 1 + 1 by omega) (.int .i64 X) (.int .i64 Y)
        clear G2 hB hB2 hb1 hb2 k0 k1 g0 g1 g2 f2
        have HX := Lib.hid hX
        clear hX
        go_wp2_with fail
        exact bodyPost_ret (v := .tuple #[.agg #[.int .i64 X, .int .i64 Y], .bool ok]) (by simp [results, Try.results19, go_sem, y0, y1]) rfl ⟨congrArg Ending.returned HX.out.symm, hbe⟩

theorem awake_sqrt : sqrtI 8589934592 8589934592 = some (6074000999, 6074001000) := by decide +kernel
theorem awake_mul : mulI (-4294967296) 8589934592 12884901888 17179869184 = some (-17179869184, 34359738368) := by decide +kernel

set_option maxRecDepth 100000 in
set_option maxHeartbeats 4000000 in
theorem awake47 (w : World) : Calls Try.prog 5 #[] w fun e w' => e = .returned (.bool true) ∧ Below w.heap.size w w' := by
  have hs := fun w => sqrt12 8589934592 8589934592 w
  rw [awake_sqrt] at hs
  have hm := fun w => mul56 (-4294967296) 8589934592 12884901888 17179869184 w
  rw [awake_mul] at hm
  have HS : Hid (∀ w, Calls Try.prog 12 #[.agg #[.int .i64 8589934592, .int .i64 8589934592]] w fun e w' => e = .returned (.tuple #[.agg #[.int .i64 6074000999, .int .i64 6074001000], .bool true]) ∧ Below w.heap.size w w') := Lib.hid hs
  have HM : Hid (∀ w, Calls Try.prog 13 #[.agg #[.int .i64 (-4294967296), .int .i64 8589934592], .agg #[.int .i64 12884901888, .int .i64 17179869184]] w fun e w' => e = .returned (.tuple #[.agg #[.int .i64 (-17179869184), .int .i64 34359738368], .bool true]) ∧ Below w.heap.size w w') := Lib.hid hm
  clear hs hm
  go_enter Try.func5, Try.ntmps5
  go_wp2_with fail
  refine (HS.out _).mono ?_
  rintro e w1 ⟨rfl, hb1⟩
  have hst := below_trans' hb1 hb1.size ((Below.refl w1.heap.size w1).alloc (Nat.le_refl _) (.cells #[.int .i64 6074000999, .int .i64 6074001000] 23))
  have G1 := heap_alloc_new w1 (.cells #[.int .i64 6074000999, .int .i64 6074001000] 23)
  go_wp2_with fail
  refine (HM.out _).mono ?_
  rintro e w2 ⟨rfl, hb2⟩
  have hst2 := below_trans' hb2 hb2.size ((Below.refl w2.heap.size w2).alloc (Nat.le_refl _) (.cells #[.int .i64 (-17179869184), .int .i64 34359738368] 23))
  have G2 := heap_alloc_new w2 (.cells #[.int .i64 (-17179869184), .int .i64 34359738368] 23)
  have k1 := cells2i (blk_below hst2 G1)
  have k2 := cells2i G2
  have hB := below_trans' hst hst.size hst2
  clear hb1 hb2 hst hst2 G1 G2
  go_wp2_with fail
  go_ret
  exact ⟨rfl, hB⟩
end Go.Proofs.Ytpligjkbnlfhgaa
