/- The reference's balance Path. -/
import Derived.Test.YtgonighpjpfmnaaBalPath
import Derived.Test.YtgonighpjpfmnaaScoreAll2
import Derived.Laws.MakeOwn
namespace Go.Proofs.Ytgonighpjpfmnaa
open Go.RowKit Go.Maps

theorem info44 : (Try.prog.info? 44).map (fun i => (i.zero, i.size, i.bytes)) = some (some (.slice none 0 0), 1, 24) := by kernel_rfl
theorem rows_at {w : World} {B size n b off : Nat} {f : Nat → List Value} (h : RowsAt w B size (some ⟨b, off, none⟩) n f) {i j : Nat} {u : Value} (hi : i < n) (hu : (f i)[j]? = some u) : w.cell? ⟨b, off + i * size + j, none⟩ = some u := by
  obtain ⟨b', o', hA, _, hc⟩ := h (by omega)
  cases hA
  exact hc i hi j u hu

theorem make129 (m : Nat) (hm : m ≤ 1048576) (u : World) : (Instr.makeSlice 129 (.int .i64 m) (.int .i64 m)).run Try.prog u = .ok (.slice (some ⟨u.heap.size, 0, none⟩) m m) (u.alloc (.cells (madeCells #[.slice none 0 0] m) 44)) := by
  obtain ⟨i1, hi1, hz0, hz1, hz2⟩ := info_parts info44
  have h := run_makeSlice (P := Try.prog) u 129 44 i1 (.slice none 0 0) Try.underlying129 hi1 hz0 .i64 .i64 m m (by omega) (Int.le_refl _) (by rw [hz1]; omega) (by rw [hz2]; omega) (by omega)
  simpa [hz1, Value.cells] using h

set_option maxRecDepth 100000 in
set_option maxHeartbeats 8000000 in
theorem path64 (A : Option Addr) (n cp : Nat) (f : Nat → Ev) (A' : Option Addr) (m cp' : Nat) (g : Nat → Wt) (w : World) (hn : n ≤ 1048576) (hm : m ≤ 1048576) (hR : RowsAt w w.heap.size 6 A n fun i => (f i).cells) (hW : RowsAt w w.heap.size 3 A' m fun i => (g i).cells) :
    Calls Try.prog 64 #[.slice A n cp, .slice A' m cp'] w fun en w' => ∃ v, en = .returned v ∧ Own intC 3 1 w' w.heap.size v (bpathR g m f n) ∧ Below w.heap.size w w' := by
  obtain ⟨i0, hi, hz0, hz1, hz2⟩ := info_parts info3
  have hmk := make129 m hm
  go_enter Try.func64, Try.ntmps64
  go_upto_region 4 with fail
  have hb0 : Below w.heap.size w (w.alloc (.cells (madeCells #[.slice none 0 0] m) 44)) := (Below.refl _ _).alloc (Nat.le_refl _) _
  have g0 := heap_alloc_new w (.cells (madeCells #[.slice none 0 0] m) 44)
  have hz : (madeCells #[.slice none 0 0] m).size = m := size_madeCells _ _
  have hb0s : w.heap.size + 1 ≤ (w.alloc (.cells (madeCells #[.slice none 0 0] m) 44)).heap.size := by simp
  generalize madeCells #[.slice none 0 0] m = cs0 at *
  generalize w.alloc (.cells cs0 44) = w1 at *
  clear hmk
  go_loopg [7] m (fun mm s7 wr => ∃ (i : Nat) (cs : Array Value), i ≤ m ∧ mm = m - i ∧ s7 = .int .i64 i ∧ wr.heap[w.heap.size]? = some (.cells cs 44 (0, 0)) ∧ cs.size = m ∧ (∀ k, k < i → ∃ u, cs[k]? = some u ∧ Two wr (w.heap.size + 1) u (0, 0)) ∧ Below w.heap.size w wr ∧ w.heap.size + 1 ≤ wr.heap.size)
  case atStart => exact ⟨0, cs0, by omega, by omega, rfl, g0, hz, (fun k hk => by omega), hb0, hb0s⟩
  case round =>
    obtain ⟨i, cs, him, hmi, rfl, gM, hcs, hall, hb, hbs⟩ := hrel
    have HMI := Lib.hid hmi
    have HALL := Lib.hid hall
    clear hmi hall g0 hz hb0 hb0s
    by_cases hi2 : i < m
    · have hiI : (i : Int) < m := by omega
      obtain ⟨u0, hu0⟩ : ∃ u, cs[i]? = some u := ⟨_, Array.getElem?_eq_getElem (by omega)⟩
      have hq : Below wr.heap.size wr (wr.alloc (.cells #[.int .i64 0, .int .i64 0] 3)) := (Below.refl _ _).alloc (Nat.le_refl _) _
      have gn := heap_alloc_new wr (.cells #[.int .i64 0, .int .i64 0] 3)
      have gM2 := blk_kept1 hq gM
      have y0 := cell_of_block gM2 i
      have f0 := free_of_block gM2 i
      rw [hu0] at y0
      go_wp2_with fail
      generalize hW2 : wr.alloc (.cells #[.int .i64 0, .int .i64 0] 3) = W2 at *
      have htn := two_new gn hbs
      have hg3 : W2.grownBy (W2.setCell ⟨w.heap.size, i, none⟩ (.slice (some ⟨wr.heap.size, 0, none⟩) 2 2)) (some w.heap.size) := only_setCell (only_refl _ _) (.inl rfl) _
      have hne : ∀ {u : Value} {p : Int × Int}, Two W2 (w.heap.size + 1) u p → u.ownBlock ≠ some w.heap.size := fun h => by
        obtain ⟨q, hq1, hq2, _⟩ := h.block
        rw [hq1]; intro he; injection he with he; omega
      have hb3 := (below_trans' hb hb.size hq).setCell (p := ⟨w.heap.size, i, none⟩) (Nat.le_refl _) (.slice (some ⟨wr.heap.size, 0, none⟩) 2 2)
      have hs3 : w.heap.size + 1 ≤ (W2.setCell ⟨w.heap.size, i, none⟩ (.slice (some ⟨wr.heap.size, 0, none⟩) 2 2)).heap.size := by have := hg3.size; have := hq.size; omega
      go_roundg (m - (i + 1))
      case measure => have := HMI.out; omega
      case rel =>
        refine ⟨i + 1, cs.setIfInBounds i (.slice (some ⟨wr.heap.size, 0, none⟩) 2 2), by omega, rfl, by go_num, block_set gM2 i _, by simp [hcs], fun k hk => ?_, hb3, hs3⟩
        by_cases hki : k = i
        · subst hki
          exact ⟨_, by rw [Array.getElem?_setIfInBounds_self_of_lt (by omega)], htn.kept hg3 (hne htn)⟩
        · obtain ⟨u, k1, k2⟩ := HALL.out k (by omega)
          have k3 := k2.below hq
          exact ⟨u, by rw [Array.getElem?_setIfInBounds_ne (by omega)]; exact k1, k3.kept hg3 (hne k3)⟩
    · obtain rfl : m = i := by omega
      have hiI : ¬ (m : Int) < m := by omega
      have hcnt : CntR wr (w.heap.size + 1) w.heap.size m 44 (.slice none 0 0) (cntK g m (fun _ => (0, 0))) := ⟨cs, gM, hcs, fun k hk => by
        obtain ⟨u, k1, k2⟩ := HALL.out k hk
        obtain ⟨q, hq1, hq2, _⟩ := k2.block
        refine ⟨u, k1, ?_, by rw [hq1]; intro he; injection he with he; omega, by rw [hq1]; intro he; cases he⟩
        unfold cntK
        split <;> exact k2⟩
      clear gM hcs HALL
      go_upto_region 9 with fail
      go_loopg [5, 8, 9, 10] n (fun mm s5 s8 s9 s10 wx => ∃ k : Nat, k ≤ n ∧ mm = n - k ∧ s5 = .int .i64 (runB g m f k).w ∧ s9 = .int .i64 k ∧ Own intC 3 1 wx (w.heap.size + 1) s8 (runB g m f k).out ∧ CntR wx (w.heap.size + 1) w.heap.size m 44 s8 (cntK g m (runB g m f k).c) ∧ Below w.heap.size w wx ∧ w.heap.size + 1 ≤ wx.heap.size)
      case atStart => exact ⟨0, by omega, by omega, rfl, rfl, Own.nil _ _ _ _ _, hcnt, hb, hbs⟩
      case round =>
        clear hcnt hb hbs
        obtain ⟨k, hk, hmk, rfl, rfl, hown, hcnt, hb, hbs⟩ := hrel
        have HMK := Lib.hid hmk
        clear hmk
        obtain ⟨wx, hwx⟩ : ∃ x, x = wr := ⟨_, rfl⟩
        subst hwx
        have hbd := runB_bd g m f k
        have hrun : runB g m f (k + 1) = stepB g m (runB g m f k) (f k) := rfl
        obtain ⟨⟨sw, sc, sout⟩, hS⟩ : ∃ S, runB g m f k = S := ⟨_, rfl⟩
        rw [hS] at hown hcnt hbd hrun ⊢
        dsimp only at hown hcnt hbd ⊢
        have HRUN := Lib.hid hrun
        have HSS := Lib.hid hS
        clear hrun hS
        obtain ⟨A7, c7, rfl, hc7⟩ := Own.shape hown
        by_cases hkn : k < n
        · have hkI : (k : Int) < n := by omega
          obtain ⟨b, off, rfl, hbA, -⟩ := (hR.below hb (Nat.le_refl _)) (by omega)
          have HRUN := HRUN.out
          obtain ⟨⟨eid, ecl, esq, etm, arm, ver⟩, he⟩ : ∃ e, f k = e := ⟨_, rfl⟩
          have hcl : f k = ⟨eid, ecl, esq, etm, arm, ver⟩ := he
          rw [he] at HRUN
          have HCL := Lib.hid hcl
          have HRUN := Lib.hid HRUN
          clear he hcl
          have hbr : ∀ W : World, Below wx.heap.size wx W → (⟨sw, sc, sout⟩ : BS) = runB g m f (k + 1) → (.int .i64 sw = Value.int .i64 (runB g m f (k + 1)).w ∧ Own intC 3 1 W (w.heap.size + 1) (.slice A7 sout.length c7) (runB g m f (k + 1)).out ∧ CntR W (w.heap.size + 1) w.heap.size m 44 (.slice A7 sout.length c7) (cntK g m (runB g m f (k + 1)).c) ∧ Below w.heap.size w W ∧ w.heap.size + 1 ≤ W.heap.size) := fun W hq h => by
            rw [← h]; exact ⟨rfl, Own.below hown hq, hcnt.below hq, below_trans' hb hb.size hq, Nat.le_trans hbs hq.size⟩
          have HBR := Lib.hid hbr
          clear hbr
          go_upto_region 12 with fail
          go_loopg [10] m (fun mm s10 wi => ∃ j : Nat, j ≤ m ∧ mm = m - j ∧ s10 = .int .i64 j ∧ idxW g ver j = none ∧ Below wx.heap.size wx wi)
          case atStart => exact ⟨0, by omega, by omega, rfl, rfl, Below.refl _ _⟩
          case round =>
            obtain ⟨j, hj, hmj, rfl, hnone, hbi⟩ := hrel
            have HMJ := Lib.hid hmj
            have HN := Lib.hid hnone
            clear hmj hnone
            have hbx := below_trans' hb hb.size hbi
            have hRw := (hR.below hbx (Nat.le_refl _)).more hbx.size
            have e4 := rows_at hRw hkn (j := 4) (u := .int .i64 arm) (by rw [HCL.out]; rfl)
            have e5 := rows_at hRw hkn (j := 5) (u := .int .i64 ver) (by rw [HCL.out]; rfl)
            by_cases hjm : j < m
            · have hjI : (j : Int) < m := by omega
              have hjI2 : ¬ (j : Int) = m := by omega
              obtain ⟨bW, oW, hAW, hbW, hcW⟩ := (hW.below hbx (Nat.le_refl _)) (by omega)
              cases hAW
              have z0 := hcW j hjm 0 _ rfl
              simp only [Nat.add_zero] at z0
              obtain ⟨⟨wv, cc, tt⟩, hx⟩ : ∃ x, g j = x := ⟨_, rfl⟩
              rw [hx] at z0
              dsimp only at z0
              by_cases hv : wv = ver
              · subst hv
                have hiw : idxW g wv m = some j := idxW_of hjm (by rw [hx]) (idxW_none HN.out)
                have hfw : findW g wv m = some ⟨wv, cc, tt⟩ := by rw [findW_idx, hiw, Option.map_some, hx]
                have hstep : stepOk g m ⟨eid, ecl, esq, etm, arm, wv⟩ = if (arm = 1 ∨ arm = 2) ∧ 1 ≤ cc ∧ cc ≤ 10000 ∧ 1 ≤ tt ∧ tt ≤ 10000 then some ⟨wv, cc, tt⟩ else none := by simp only [stepOk, hfw]
                have HST := Lib.hid hstep
                have HIW := Lib.hid hiw
                have HFW := Lib.hid hfw
                clear hstep hiw hfw hcW hx
                by_cases ha : arm = 1 ∨ arm = 2
                · have hw86 := fun W r => weights86 (some ⟨bW, oW, none⟩) m cp' g wv W hm r
                  have HW86 := Lib.hid hw86
                  clear hw86
                  rcases ha with rfl | rfl
                  · go_upto_region 12 with fail
                    go_quiet (fail)
                    go_upto_region 15 with fail
                    go_wp2_with fail
                    refine (HW86.out _ ((hW.below (below_drewN hbx nq) (Nat.le_refl _)).more (below_drewN hbx nq).size)).mono ?_
                    intro en w5 hpost
                    obtain ⟨rfl, hq⟩ := hpost.some HFW.out
                    clear hpost
                    go_upto_region 16 with fail
                    have hq4 := below_trans' (below_drewN hbi nq) (below_drewN hbi nq).size hq
                    have hq5 : Below wx.heap.size wx (w5.alloc (.cells #[.int .i64 wv, .int .i64 cc, .int .i64 tt] 42)) := hq4.alloc hq4.size _
                    have gB := heap_alloc_new w5 (.cells #[.int .i64 wv, .int .i64 cc, .int .i64 tt] 42)
                    generalize w5.alloc (.cells #[.int .i64 wv, .int .i64 cc, .int .i64 tt] 42) = w6 at *
                    generalize w5.heap.size = GB at *
                    clear hq hq4 e4 e5 z0 hRw hbx
                    have y1 := cell_of_block gB 1
                    have y2 := cell_of_block gB 2
                    simp only [List.getElem?_toArray, List.getElem?_cons_zero, List.getElem?_cons_succ] at y1 y2
                    by_cases hok : 1 ≤ cc ∧ cc ≤ 10000 ∧ 1 ≤ tt ∧ tt ≤ 10000
                    · obtain ⟨o1, o2, o3, o4⟩ := hok
                      have hd1 : ¬ cc < 1 := by omega
                      have hd2 : ¬ 10000 < cc := by omega
                      have hd3 : ¬ tt < 1 := by omega
                      have hd4 : ¬ 10000 < tt := by omega
                      have hst := HST.out
                      rw [if_pos ⟨by first | omega | simp, o1, o2, o3, o4⟩] at hst
                      obtain ⟨q1, q2, hqq⟩ : ∃ q1 q2, bc ⟨sw, sc, sout⟩ ⟨eid, ecl, esq, etm, 1, wv⟩ ⟨wv, cc, tt⟩ = [q1, q2] := ⟨_, _, bc_two _ _ _⟩
                      obtain ⟨nw, hnw⟩ : ∃ x, bw ⟨sw, sc, sout⟩ ⟨eid, ecl, esq, etm, 1, wv⟩ ⟨wv, cc, tt⟩ = x := ⟨_, rfl⟩
                      obtain ⟨⟨p1, p2⟩, hp⟩ : ∃ p, sc wv = p := ⟨_, rfl⟩
                      have hnx : runB g m f (k + 1) = ⟨nw, setC sc wv (q1, q2), sout ++ [nw]⟩ := by
                        rw [HRUN.out]
                        simp only [stepB, hst, hqq, hnw]
                        rfl
                      have hnwb : 0 ≤ nw ∧ nw ≤ 2305843009213693952 := by rw [← hnw]; exact balW_bd hbd.1.1 hbd.1.2
                      have hswb := hbd.1
                      have hsl := hbd.2
                      have hbw : balW sw 2 2 (cf p1 p2) (cf cc tt) 1 = nw := by rw [← hnw]; simp only [bw, hp]
                      have hbc : balC sw 2 2 (cf p1 p2) (cf cc tt) 1 = [q1, q2] := by rw [← hqq]; simp only [bc, hp]
                      have HNX := Lib.hid hnx
                      have HBW := Lib.hid hbw
                      have HBC := Lib.hid hbc
                      have hck : cntK g m sc j = (p1, p2) := by
                        obtain ⟨_, hv2, _⟩ := idxW_lt HIW.out
                        unfold cntK
                        rw [hv2, if_pos HIW.out, hp]
                      clear hst hqq hnw hp hnx hbw hbc hbd
                      replace hown := Own.below hown hq5
                      replace hcnt := hcnt.below hq5
                      replace hb := below_trans' hb hb.size hq5
                      replace hbs := Nat.le_trans hbs hq5.size
                      clear hq5 HBR
                      go_upto_region 17 with fail
                      have hq := (Below.refl w6.heap.size w6).drew
                      replace hown := Own.below hown hq
                      replace hcnt := hcnt.below hq
                      replace hb := below_trans' hb hb.size hq
                      replace hbs := Nat.le_trans hbs hq.size
                      replace gB := blk_kept1 hq gB
                      obtain ⟨cs, gM, hcsz, hall⟩ := id hcnt
                      obtain ⟨u, hcsi, htwo, _, _⟩ := hall j hjm
                      rw [hck] at htwo
                      obtain ⟨A1, c1, rfl, _⟩ := htwo.rows
                      have hRw := (hR.below hb (Nat.le_refl _)).more hb.size
                      have HCS := Lib.hid hcsi
                      clear hq hall y1 y2 hck
                      obtain ⟨CA, hCA⟩ : ∃ C : World → Prop, C = fun w' => w'.cell? ⟨w.heap.size, j, none⟩ = some (.slice A1 2 c1) := ⟨_, rfl⟩
                      obtain ⟨CB, hCB⟩ : ∃ C : World → Prop, C = fun w' => w'.cell? ⟨GB, 1, none⟩ = some (.int .i64 cc) := ⟨_, rfl⟩
                      obtain ⟨CC, hCC⟩ : ∃ C : World → Prop, C = fun w' => w'.cell? ⟨GB, 2, none⟩ = some (.int .i64 tt) := ⟨_, rfl⟩
                      obtain ⟨CD, hCD⟩ : ∃ C : World → Prop, C = fun w' => w'.cell? ⟨b, off + k * 6 + 4, none⟩ = some (.int .i64 1) := ⟨_, rfl⟩
                      have lift : ∀ w', w'.heap[w.heap.size]? = some (.cells cs 44 (0, 0)) → w'.heap[GB]? = some (.cells #[.int .i64 wv, .int .i64 cc, .int .i64 tt] 42 (0, 0)) → RowsAt w' w'.heap.size 6 (some ⟨b, off, none⟩) n (fun i => (f i).cells) → ∀ listed, held [(17, CA), (11, CB), (11, CC), (17, CD)] listed w' := fun w' h1 h2 h3 listed p hp _ => by
                        simp only [List.mem_cons, List.not_mem_nil, or_false] at hp
                        rcases hp with rfl | rfl | rfl | rfl
                        · rw [hCA]; exact (cell_of_block h1 j).trans HCS.out
                        · rw [hCB]; exact cell_of_block h2 1
                        · rw [hCC]; exact cell_of_block h2 2
                        · rw [hCD]; exact rows_at h3 hkn (j := 4) (u := .int .i64 1) (by rw [HCL.out]; rfl)
                      have done : ∀ (listed : Array Bool) w', listed.getD 17 true = true → listed.getD 11 true = true → held [(17, CA), (11, CB), (11, CC), (17, CD)] listed w' := fun listed w' e1 e2 p hp hl => by
                        simp only [List.mem_cons, List.not_mem_nil, or_false] at hp
                        rcases hp with rfl | rfl | rfl | rfl
                        · rw [e1] at hl; cases hl
                        · rw [e2] at hl; cases hl
                        · rw [e2] at hl; cases hl
                        · rw [e1] at hl; cases hl
                      have HS := lift w6.drew gM gB hRw (Array.replicate 24 false)
                      have LIFT := Lib.hid lift
                      have HCA := Lib.hid hCA
                      have HCB := Lib.hid hCB
                      have HCC := Lib.hid hCC
                      have HCD := Lib.hid hCD
                      clear hCA hCB hCC hCD lift
                      go_wp2_with fail
                      refine wp_region_heldT [(17, CA), (11, CB), (11, CC), (17, CD)] (by kernel_rfl) ?_
                      rw [show ∀ l : List Oper, l.toArray.size = l.length from fun _ => rfl]
                      simp only [List.length_cons, List.length_nil, Nat.reduceAdd]
                      generalize w6.drew = W0 at *
                      refine hT_on (i := 0) (d := (some 100)) (v := ?_) (a' := ?_) (by kernel_rfl) (by kernel_rfl) (by kernel_rfl) (by kernel_rfl) (by kernel_rfl) (fun _ _ _ h => h) HS ?_ ?_ ?_
                      rotate_left 2
                      · (intro o ho w'; simp only [List.getElem?_toArray, List.getElem?_cons_zero, Option.some.injEq] at ho; subst ho; go_simp; try with_reducible rfl)
                      · (simp only [Act.put, List.setIfInBounds_toArray, List.set_cons_succ, List.set_cons_zero]; rfl)
                      clear HS; intro HS
                      refine hT_on (i := 1) (d := (some 101)) (v := ?_) (a' := ?_) (by kernel_rfl) (by kernel_rfl) (by kernel_rfl) (by kernel_rfl) (by kernel_rfl) (fun _ _ _ h => h) HS ?_ ?_ ?_
                      rotate_left 2
                      · (intro o ho w'; simp only [List.getElem?_toArray, List.getElem?_cons_succ, List.getElem?_cons_zero, Option.some.injEq] at ho; subst ho; go_simp; try with_reducible rfl)
                      · (simp only [Act.put, List.setIfInBounds_toArray, List.set_cons_succ, List.set_cons_zero]; rfl)
                      clear HS; intro HS
                      refine hT_on (i := 2) (d := (some 102)) (v := ?_) (a' := ?_) (by kernel_rfl) (by kernel_rfl) (by kernel_rfl) (by kernel_rfl) (by kernel_rfl) (fun _ _ _ h => h) HS ?_ ?_ ?_
                      rotate_left 2
                      · (intro o ho w'; simp only [List.getElem?_toArray, List.getElem?_cons_succ, List.getElem?_cons_zero, Option.some.injEq] at ho; subst ho; go_simp; try with_reducible rfl)
                      · (simp only [Act.put, List.setIfInBounds_toArray, List.set_cons_succ, List.set_cons_zero]; rfl)
                      clear HS; intro HS
                      refine hT_on (i := 3) (d := (some 103)) (v := ?_) (a' := ?_) (by kernel_rfl) (by kernel_rfl) (by kernel_rfl) (by kernel_rfl) (by kernel_rfl) (fun _ _ _ h => h) HS ?_ ?_ ?_
                      rotate_left 2
                      · (intro o ho w'; simp only [List.getElem?_toArray, List.getElem?_cons_succ, List.getElem?_cons_zero, Option.some.injEq] at ho; subst ho; go_simp; try with_reducible rfl)
                      · (simp only [Act.put, List.setIfInBounds_toArray, List.set_cons_succ, List.set_cons_zero]; rfl)
                      clear HS; intro HS
                      refine hT_on (i := 4) (d := (some 104)) (v := ?_) (a' := ?_) (by kernel_rfl) (by kernel_rfl) (by kernel_rfl) (by kernel_rfl) (by kernel_rfl) (fun _ _ _ h => h) HS ?_ ?_ ?_
                      rotate_left 2
                      · (intro o ho w'; simp only [List.getElem?_toArray, List.getElem?_cons_succ, List.getElem?_cons_zero, Option.some.injEq] at ho; subst ho; go_simp; try with_reducible rfl)
                      · (simp only [Act.put, List.setIfInBounds_toArray, List.set_cons_succ, List.set_cons_zero]; rfl)
                      clear HS; intro HS
                      refine hT_on (i := 5) (d := (some 105)) (v := ?_) (a' := ?_) (by kernel_rfl) (by kernel_rfl) (by kernel_rfl) (by kernel_rfl) (by kernel_rfl) (fun _ _ _ h => h) HS ?_ ?_ ?_
                      rotate_left 2
                      · (intro o ho w'; simp only [List.getElem?_toArray, List.getElem?_cons_succ, List.getElem?_cons_zero, Option.some.injEq] at ho; subst ho; go_simp; try with_reducible rfl)
                      · (simp only [Act.put, List.setIfInBounds_toArray, List.set_cons_succ, List.set_cons_zero]; rfl)
                      clear HS; intro HS
                      refine hT_ld (i := 6) (m := 17) (C := CA) (d := (some 106)) (v := ?_) (a' := ?_) (by kernel_rfl) (by kernel_rfl) (by kernel_rfl) (by kernel_rfl) (by kernel_rfl) (by kernel_rfl) (by simp) (by kernel_rfl) (fun _ _ _ h => h) HS ?_ ?_ ?_
                      rotate_left 2
                      · (intro o ho w' hC; rw [HCA.out] at hC; simp only [List.getElem?_toArray, List.getElem?_cons_succ, List.getElem?_cons_zero, Option.some.injEq] at ho; subst ho; (try dsimp only at hC); go_simp; try with_reducible rfl)
                      · (simp only [Act.put, List.setIfInBounds_toArray, List.set_cons_succ, List.set_cons_zero]; rfl)
                      clear HS; intro HS
                      refine hT_on (i := 7) (d := (some 107)) (v := ?_) (a' := ?_) (by kernel_rfl) (by kernel_rfl) (by kernel_rfl) (by kernel_rfl) (by kernel_rfl) (fun _ _ _ h => h) HS ?_ ?_ ?_
                      rotate_left 2
                      · (intro o ho w'; simp only [List.getElem?_toArray, List.getElem?_cons_succ, List.getElem?_cons_zero, Option.some.injEq] at ho; subst ho; go_simp; try with_reducible rfl)
                      · (simp only [Act.put, List.setIfInBounds_toArray, List.set_cons_succ, List.set_cons_zero]; rfl)
                      clear HS; intro HS
                      refine hT_ld (i := 8) (m := 11) (C := CB) (d := (some 108)) (v := ?_) (a' := ?_) (by kernel_rfl) (by kernel_rfl) (by kernel_rfl) (by kernel_rfl) (by kernel_rfl) (by kernel_rfl) (by simp) (by kernel_rfl) (fun _ _ _ h => h) HS ?_ ?_ ?_
                      rotate_left 2
                      · (intro o ho w' hC; rw [HCB.out] at hC; simp only [List.getElem?_toArray, List.getElem?_cons_succ, List.getElem?_cons_zero, Option.some.injEq] at ho; subst ho; (try dsimp only at hC); go_simp; try with_reducible rfl)
                      · (simp only [Act.put, List.setIfInBounds_toArray, List.set_cons_succ, List.set_cons_zero]; rfl)
                      clear HS; intro HS
                      refine hT_on (i := 9) (d := (some 109)) (v := ?_) (a' := ?_) (by kernel_rfl) (by kernel_rfl) (by kernel_rfl) (by kernel_rfl) (by kernel_rfl) (fun _ _ _ h => h) HS ?_ ?_ ?_
                      rotate_left 2
                      · (intro o ho w'; simp only [List.getElem?_toArray, List.getElem?_cons_succ, List.getElem?_cons_zero, Option.some.injEq] at ho; subst ho; go_simp; try with_reducible rfl)
                      · (simp only [Act.put, List.setIfInBounds_toArray, List.set_cons_succ, List.set_cons_zero]; rfl)
                      clear HS; intro HS
                      refine hT_ld (i := 10) (m := 11) (C := CC) (d := (some 110)) (v := ?_) (a' := ?_) (by kernel_rfl) (by kernel_rfl) (by kernel_rfl) (by kernel_rfl) (by kernel_rfl) (by kernel_rfl) (by simp) (by kernel_rfl) (fun _ _ _ h => h) HS ?_ ?_ ?_
                      rotate_left 2
                      · (intro o ho w' hC; rw [HCC.out] at hC; simp only [List.getElem?_toArray, List.getElem?_cons_succ, List.getElem?_cons_zero, Option.some.injEq] at ho; subst ho; (try dsimp only at hC); go_simp; try with_reducible rfl)
                      · (simp only [Act.put, List.setIfInBounds_toArray, List.set_cons_succ, List.set_cons_zero]; rfl)
                      clear HS; intro HS
                      refine hT_on (i := 12) (d := (some 112)) (v := ?_) (a' := ?_) (by kernel_rfl) (by kernel_rfl) (by kernel_rfl) (by kernel_rfl) (by kernel_rfl) (fun _ _ _ h => h) HS ?_ ?_ ?_
                      rotate_left 2
                      · (intro o ho w'; simp only [List.getElem?_toArray, List.getElem?_cons_succ, List.getElem?_cons_zero, Option.some.injEq] at ho; subst ho; go_simp; try with_reducible rfl)
                      · (simp only [Act.put, List.setIfInBounds_toArray, List.set_cons_succ, List.set_cons_zero]; rfl)
                      clear HS; intro HS
                      refine hT_on (i := 13) (d := (some 113)) (v := ?_) (a' := ?_) (by kernel_rfl) (by kernel_rfl) (by kernel_rfl) (by kernel_rfl) (by kernel_rfl) (fun _ _ _ h => h) HS ?_ ?_ ?_
                      rotate_left 2
                      · (intro o ho w'; simp only [List.getElem?_toArray, List.getElem?_cons_succ, List.getElem?_cons_zero, Option.some.injEq] at ho; subst ho; go_simp; try with_reducible rfl)
                      · (simp only [Act.put, List.setIfInBounds_toArray, List.set_cons_succ, List.set_cons_zero]; rfl)
                      clear HS; intro HS
                      refine hT_on (i := 14) (d := (some 114)) (v := ?_) (a' := ?_) (by kernel_rfl) (by kernel_rfl) (by kernel_rfl) (by kernel_rfl) (by kernel_rfl) (fun _ _ _ h => h) HS ?_ ?_ ?_
                      rotate_left 2
                      · (intro o ho w'; simp only [List.getElem?_toArray, List.getElem?_cons_succ, List.getElem?_cons_zero, Option.some.injEq] at ho; subst ho; go_simp; try with_reducible rfl)
                      · (simp only [Act.put, List.setIfInBounds_toArray, List.set_cons_succ, List.set_cons_zero]; rfl)
                      clear HS; intro HS
                      refine hT_on (i := 15) (d := (some 115)) (v := ?_) (a' := ?_) (by kernel_rfl) (by kernel_rfl) (by kernel_rfl) (by kernel_rfl) (by kernel_rfl) (fun _ _ _ h => h) HS ?_ ?_ ?_
                      rotate_left 2
                      · (intro o ho w'; simp only [List.getElem?_toArray, List.getElem?_cons_succ, List.getElem?_cons_zero, Option.some.injEq] at ho; subst ho; go_simp; try with_reducible rfl)
                      · (simp only [Act.put, List.setIfInBounds_toArray, List.set_cons_succ, List.set_cons_zero]; rfl)
                      clear HS; intro HS
                      refine hT_ld (i := 16) (m := 17) (C := CD) (d := (some 116)) (v := ?_) (a' := ?_) (by kernel_rfl) (by kernel_rfl) (by kernel_rfl) (by kernel_rfl) (by kernel_rfl) (by kernel_rfl) (by simp) (by kernel_rfl) (fun _ _ _ h => h) HS ?_ ?_ ?_
                      rotate_left 2
                      · (intro o ho w' hC; rw [HCD.out] at hC; simp only [List.getElem?_toArray, List.getElem?_cons_succ, List.getElem?_cons_zero, Option.some.injEq] at ho; subst ho; (try dsimp only at hC); go_simp; try with_reducible rfl)
                      · (simp only [Act.put, List.setIfInBounds_toArray, List.set_cons_succ, List.set_cons_zero]; rfl)
                      clear HS; intro HS
                      refine hT_one (i := 11) (by kernel_rfl) (fun o ho K hK => ?_)
                      simp only [List.getElem?_toArray, List.getElem?_cons_succ, List.getElem?_cons_zero, Option.some.injEq] at ho; subst ho
                      go_simp
                      have hq := (Below.refl W0.heap.size W0).alloc (Nat.le_refl _) (.cells #[.int .i64 cc, .int .i64 tt] 3)
                      have gv := heap_alloc_new W0 (.cells #[.int .i64 cc, .int .i64 tt] 3)
                      have hb0s := hbs
                      replace htwo := htwo.below hq
                      replace hcnt := hcnt.below hq
                      replace hown := Own.below hown hq
                      replace hb := below_trans' hb hb.size hq
                      replace gB := blk_kept1 hq gB
                      replace gM := blk_kept1 hq gM
                      have hbs1 := Nat.le_trans hbs hq.size
                      clear hq
                      replace hRw := (hR.below hb (Nat.le_refl _)).more hb.size
                      generalize W0.alloc (.cells #[.int .i64 cc, .int .i64 tt] 3) = W1 at *
                      generalize W0.heap.size = Gv at *
                      obtain ⟨A1', c1', hs1, hr1⟩ := htwo.rows
                      injection hs1 with hs1 _ hs2
                      subst hs1 hs2
                      have hr2 := rows_cf gv
                      refine hK.out _ _ ?_ (fun HS' => ?_)
                      · exact LIFT.out W1 gM gB hRw _
                      clear hK K HS; have HS := HS'; clear HS'
                      (try simp only [Act.put, List.setIfInBounds_toArray, List.set_cons_zero, List.set_cons_succ])
                      refine hT_one (i := 17) (by kernel_rfl) (fun o ho K hK => ?_)
                      simp only [List.getElem?_toArray, List.getElem?_cons_succ, List.getElem?_cons_zero, Option.some.injEq] at ho; subst ho
                      go_simp
                      go_at_call 53
                      with_reducible refine (step53 sw A1 (some ⟨Gv, 0, none⟩) 2 2 c1 2 (cf p1 p2) (cf cc tt) 1 W1 (by omega) (by omega) (by omega) hr1 hr2).mono ?_
                      rintro en W2 ⟨o, rfl, ho, hq⟩
                      rw [HBW.out]
                      rw [HBC.out] at ho
                      replace hcnt := hcnt.below hq
                      replace gB := blk_kept1 hq gB
                      replace gM := blk_kept1 hq gM
                      have hob := Two.block (p := (q1, q2)) ho
                      have hvo := fun q hq => World.ownsRow.lt hown q hq
                      have ho2 : Two W2 (w.heap.size + 1) o (q1, q2) := Own.mono ho hbs1
                      replace hown := Own.below hown hq
                      replace hb := below_trans' hb hb.size hq
                      replace hRw := (hR.below hb (Nat.le_refl _)).more hb.size
                      clear hq ho htwo hr1 hr2 gv
                      obtain ⟨Ao, co, rfl, -⟩ := ho2.rows
                      refine hK.out _ _ ?_ (fun HS' => ?_)
                      · exact LIFT.out W2 gM gB hRw _
                      clear hK K HS; have HS := HS'; clear HS'
                      (try simp only [Act.put, List.setIfInBounds_toArray, List.set_cons_zero, List.set_cons_succ])
                      refine hT_on (i := 18) (d := (some 99)) (v := ?_) (a' := ?_) (by kernel_rfl) (by kernel_rfl) (by kernel_rfl) (by kernel_rfl) (by kernel_rfl) (fun _ _ _ h => h) HS ?_ ?_ ?_
                      rotate_left 2
                      · (intro o ho w'; simp only [List.getElem?_toArray, List.getElem?_cons_succ, List.getElem?_cons_zero, Option.some.injEq] at ho; subst ho; go_simp; try with_reducible rfl)
                      · (simp only [Act.put, List.setIfInBounds_toArray, List.set_cons_succ, List.set_cons_zero]; rfl)
                      clear HS; intro HS
                      refine hT_on (i := 19) (d := (some 118)) (v := ?_) (a' := ?_) (by kernel_rfl) (by kernel_rfl) (by kernel_rfl) (by kernel_rfl) (by kernel_rfl) (fun _ _ _ h => h) HS ?_ ?_ ?_
                      rotate_left 2
                      · (intro o ho w'; simp only [List.getElem?_toArray, List.getElem?_cons_succ, List.getElem?_cons_zero, Option.some.injEq] at ho; subst ho; go_simp; try with_reducible rfl)
                      · (simp only [Act.put, List.setIfInBounds_toArray, List.set_cons_succ, List.set_cons_zero]; rfl)
                      clear HS; intro HS
                      refine hT_on (i := 20) (d := (some 119)) (v := ?_) (a' := ?_) (by kernel_rfl) (by kernel_rfl) (by kernel_rfl) (by kernel_rfl) (by kernel_rfl) (fun _ _ _ h => h) HS ?_ ?_ ?_
                      rotate_left 2
                      · (intro o ho w'; simp only [List.getElem?_toArray, List.getElem?_cons_succ, List.getElem?_cons_zero, Option.some.injEq] at ho; subst ho; go_simp; try with_reducible rfl)
                      · (simp only [Act.put, List.setIfInBounds_toArray, List.set_cons_succ, List.set_cons_zero]; rfl)
                      clear HS; intro HS
                      refine hT_on (i := 21) (d := (some 5)) (v := ?_) (a' := ?_) (by kernel_rfl) (by kernel_rfl) (by kernel_rfl) (by kernel_rfl) (by kernel_rfl) (fun _ _ _ h => h) HS ?_ ?_ ?_
                      rotate_left 2
                      · (intro o ho w'; simp only [List.getElem?_toArray, List.getElem?_cons_succ, List.getElem?_cons_zero, Option.some.injEq] at ho; subst ho; go_simp; try with_reducible rfl)
                      · (simp only [Act.put, List.setIfInBounds_toArray, List.set_cons_succ, List.set_cons_zero]; rfl)
                      clear HS; intro HS
                      refine hT_on (i := 22) (d := (some 120)) (v := ?_) (a' := ?_) (by kernel_rfl) (by kernel_rfl) (by kernel_rfl) (by kernel_rfl) (by kernel_rfl) (fun _ _ _ h => h) HS ?_ ?_ ?_
                      rotate_left 2
                      · (intro o ho w'; simp only [List.getElem?_toArray, List.getElem?_cons_succ, List.getElem?_cons_zero, Option.some.injEq] at ho; subst ho; go_simp; try with_reducible rfl)
                      · (simp only [Act.put, List.setIfInBounds_toArray, List.set_cons_succ, List.set_cons_zero]; rfl)
                      clear HS; intro HS
                      refine hT_one (i := 23) (by kernel_rfl) (fun o ho K hK => ?_)
                      simp only [List.getElem?_toArray, List.getElem?_cons_succ, List.getElem?_cons_zero, Option.some.injEq] at ho; subst ho
                      have yM := cell_of_block gM j
                      have fM := free_of_block gM j
                      rw [HCS.out] at yM
                      go_simp
                      obtain ⟨go, hgo, hgo1, hgo2⟩ := hob
                      have hne1 : (Value.slice Ao 2 co).ownBlock ≠ some w.heap.size := by rw [hgo]; intro he; injection he with he; omega
                      have hne2 : (Value.slice Ao 2 co).ownBlock ≠ (Value.slice A7 sout.length c7).ownBlock := by rw [hgo]; intro he; have := hvo go he.symm; omega
                      have hcnt3 : CntR (W2.setCell ⟨w.heap.size, j, none⟩ (.slice Ao 2 co)) (w.heap.size + 1) w.heap.size m 44 (.slice A7 sout.length c7) (cntK g m (setC sc wv (q1, q2))) := (hcnt.set hjm ho2 hne1 hne2).congr (fun q _ => (cntK_set HIW.out q).symm)
                      have hg3 : W2.grownBy (W2.setCell ⟨w.heap.size, j, none⟩ (.slice Ao 2 co)) (some w.heap.size) := only_setCell (only_refl _ _) (.inl rfl) _
                      have hown3 : Own intC 3 1 (W2.setCell ⟨w.heap.size, j, none⟩ (.slice Ao 2 co)) (w.heap.size + 1) (.slice A7 sout.length c7) sout := Own.only hown hg3 (by omega)
                      have hb3 : Below w.heap.size w (W2.setCell ⟨w.heap.size, j, none⟩ (.slice Ao 2 co)) := hb.setCell (Nat.le_refl _) _
                      clear hcnt hown hb ho2 gB gM hg3 yM fM hRw
                      generalize W2.setCell ⟨w.heap.size, j, none⟩ (.slice Ao 2 co) = W3 at *
                      refine hK.out _ _ ?_ (fun HS' => ?_)
                      · exact done _ _ (by kernel_rfl) (by kernel_rfl)
                      clear hK K HS; have HS := HS'; clear HS'
                      (try simp only [Act.put, List.setIfInBounds_toArray, List.set_cons_zero, List.set_cons_succ])
                      refine held_done (by kernel_rfl) ?_ _
                      have hs3 : w.heap.size + 1 ≤ W3.heap.size := by obtain ⟨_, h, _⟩ := hcnt3; have := lt_of_blk h; omega
                      go_wp2_with (at_builtin; refine wpList_append_lies _ (by rfl) (.tmp 121) (.tmp 123) 44 (by rfl) (w.heap.size + 1) 3 i0 _ 1 8 Try.underlying44 hi hz0 hz1 hz2 rfl (by omega) _ _ _ (by rfl) (World.ownsRow.alloc hown3 _) ⟨W3.heap.size, 0, none⟩ 1 1 [.int .i64 nw] (by rfl) (by rfl) (World.news_of_block (heap_alloc_new W3 (.cells #[.int .i64 nw] 3))) (by simp [Value.oneCell']) (by omega) (by unfold maxLen; omega) (by omega) (by simp; omega) (W3.heap.size + 1) (by simp) ?_; intro g' cap' w7 hown7 hgrow hat hlt7)
                      have hrow : ∀ q, (Value.slice A7 sout.length c7).ownBlock = some q → w.heap.size + 1 ≤ q := fun q hq => (World.ownsRow.lt hown3 q hq).1
                      have hqa : Below W3.heap.size W3 (W3.alloc (.cells #[.int .i64 nw] 3)) := (Below.refl _ _).alloc (Nat.le_refl _) _
                      have hb7 : Below w.heap.size w w7 := (hb3.alloc hb3.size _).grown hgrow (by simp; omega) (fun q hq => by have := hrow q hq; omega)
                      have ho : Own intC 3 1 w7 (w.heap.size + 1) (.slice (some ⟨g', 0, none⟩) (sout.length + 1) cap') (sout ++ [nw]) := Own.snoc (c := intC) hown7
                      have hc7 : CntR w7 (w.heap.size + 1) w.heap.size m 44 (.slice (some ⟨g', 0, none⟩) (sout.length + 1) cap') (cntK g m (setC sc wv (q1, q2))) := (hcnt3.below hqa).app hgrow (fun he => by have := hrow _ he; omega) (by
                        rcases hat with h | h
                        · exact .inl h.symm
                        · exact .inr ⟨g', rfl, by rw [h]; simp⟩)
                      have hs7 : w.heap.size + 1 ≤ w7.heap.size := by obtain ⟨_, h, _⟩ := hc7; have := lt_of_blk h; omega
                      go_roundg (n - (k + 1))
                      case measure => have := HMK.out; omega
                      case rel =>
                        exact ⟨k + 1, by omega, rfl, by rw [HNX.out], by go_num, by rw [HNX.out]; exact ho, by rw [HNX.out]; exact hc7, hb7, hs7⟩
                    · have hnx : (⟨sw, sc, sout⟩ : BS) = runB g m f (k + 1) := by
                        have hst := HST.out
                        rw [if_neg (fun h => hok h.2)] at hst
                        rw [HRUN.out]; simp only [stepB, hst]
                      have HNX := Lib.hid hnx
                      clear hnx
                      by_cases d1 : cc < 1
                      · go_wp2_with fail
                        go_roundg (n - (k + 1))
                        case measure => have := HMK.out; omega
                        case rel =>
                          obtain ⟨q1, q2, q3, q4, q5⟩ := HBR.out _ hq5 HNX.out
                          exact ⟨k + 1, by omega, rfl, q1, by go_num, q2, q3, q4, q5⟩
                      · by_cases d2 : 10000 < cc
                        · go_wp2_with fail
                          go_roundg (n - (k + 1))
                          case measure => have := HMK.out; omega
                          case rel =>
                            obtain ⟨q1, q2, q3, q4, q5⟩ := HBR.out _ hq5 HNX.out
                            exact ⟨k + 1, by omega, rfl, q1, by go_num, q2, q3, q4, q5⟩
                        · by_cases d3 : tt < 1
                          · go_wp2_with fail
                            go_roundg (n - (k + 1))
                            case measure => have := HMK.out; omega
                            case rel =>
                              obtain ⟨q1, q2, q3, q4, q5⟩ := HBR.out _ hq5 HNX.out
                              exact ⟨k + 1, by omega, rfl, q1, by go_num, q2, q3, q4, q5⟩
                          · have d4 : 10000 < tt := by omega
                            go_wp2_with fail
                            go_roundg (n - (k + 1))
                            case measure => have := HMK.out; omega
                            case rel =>
                              obtain ⟨q1, q2, q3, q4, q5⟩ := HBR.out _ hq5 HNX.out
                              exact ⟨k + 1, by omega, rfl, q1, by go_num, q2, q3, q4, q5⟩
                  · go_upto_region 12 with fail
                    go_quiet (fail)
                    go_upto_region 15 with fail
                    go_wp2_with fail
                    refine (HW86.out _ ((hW.below (below_drewN hbx nq) (Nat.le_refl _)).more (below_drewN hbx nq).size)).mono ?_
                    intro en w5 hpost
                    obtain ⟨rfl, hq⟩ := hpost.some HFW.out
                    clear hpost
                    go_upto_region 16 with fail
                    have hq4 := below_trans' (below_drewN hbi nq) (below_drewN hbi nq).size hq
                    have hq5 : Below wx.heap.size wx (w5.alloc (.cells #[.int .i64 wv, .int .i64 cc, .int .i64 tt] 42)) := hq4.alloc hq4.size _
                    have gB := heap_alloc_new w5 (.cells #[.int .i64 wv, .int .i64 cc, .int .i64 tt] 42)
                    generalize w5.alloc (.cells #[.int .i64 wv, .int .i64 cc, .int .i64 tt] 42) = w6 at *
                    generalize w5.heap.size = GB at *
                    clear hq hq4 e4 e5 z0 hRw hbx
                    have y1 := cell_of_block gB 1
                    have y2 := cell_of_block gB 2
                    simp only [List.getElem?_toArray, List.getElem?_cons_zero, List.getElem?_cons_succ] at y1 y2
                    by_cases hok : 1 ≤ cc ∧ cc ≤ 10000 ∧ 1 ≤ tt ∧ tt ≤ 10000
                    · obtain ⟨o1, o2, o3, o4⟩ := hok
                      have hd1 : ¬ cc < 1 := by omega
                      have hd2 : ¬ 10000 < cc := by omega
                      have hd3 : ¬ tt < 1 := by omega
                      have hd4 : ¬ 10000 < tt := by omega
                      have hst := HST.out
                      rw [if_pos ⟨by first | omega | simp, o1, o2, o3, o4⟩] at hst
                      obtain ⟨q1, q2, hqq⟩ : ∃ q1 q2, bc ⟨sw, sc, sout⟩ ⟨eid, ecl, esq, etm, 2, wv⟩ ⟨wv, cc, tt⟩ = [q1, q2] := ⟨_, _, bc_two _ _ _⟩
                      obtain ⟨nw, hnw⟩ : ∃ x, bw ⟨sw, sc, sout⟩ ⟨eid, ecl, esq, etm, 2, wv⟩ ⟨wv, cc, tt⟩ = x := ⟨_, rfl⟩
                      obtain ⟨⟨p1, p2⟩, hp⟩ : ∃ p, sc wv = p := ⟨_, rfl⟩
                      have hnx : runB g m f (k + 1) = ⟨nw, setC sc wv (q1, q2), sout ++ [nw]⟩ := by
                        rw [HRUN.out]
                        simp only [stepB, hst, hqq, hnw]
                        rfl
                      have hnwb : 0 ≤ nw ∧ nw ≤ 2305843009213693952 := by rw [← hnw]; exact balW_bd hbd.1.1 hbd.1.2
                      have hswb := hbd.1
                      have hsl := hbd.2
                      have hbw : balW sw 2 2 (cf p1 p2) (cf cc tt) 2 = nw := by rw [← hnw]; simp only [bw, hp]
                      have hbc : balC sw 2 2 (cf p1 p2) (cf cc tt) 2 = [q1, q2] := by rw [← hqq]; simp only [bc, hp]
                      have HNX := Lib.hid hnx
                      have HBW := Lib.hid hbw
                      have HBC := Lib.hid hbc
                      have hck : cntK g m sc j = (p1, p2) := by
                        obtain ⟨_, hv2, _⟩ := idxW_lt HIW.out
                        unfold cntK
                        rw [hv2, if_pos HIW.out, hp]
                      clear hst hqq hnw hp hnx hbw hbc hbd
                      replace hown := Own.below hown hq5
                      replace hcnt := hcnt.below hq5
                      replace hb := below_trans' hb hb.size hq5
                      replace hbs := Nat.le_trans hbs hq5.size
                      clear hq5 HBR
                      go_upto_region 17 with fail
                      have hq := (Below.refl w6.heap.size w6).drew
                      replace hown := Own.below hown hq
                      replace hcnt := hcnt.below hq
                      replace hb := below_trans' hb hb.size hq
                      replace hbs := Nat.le_trans hbs hq.size
                      replace gB := blk_kept1 hq gB
                      obtain ⟨cs, gM, hcsz, hall⟩ := id hcnt
                      obtain ⟨u, hcsi, htwo, _, _⟩ := hall j hjm
                      rw [hck] at htwo
                      obtain ⟨A1, c1, rfl, _⟩ := htwo.rows
                      have hRw := (hR.below hb (Nat.le_refl _)).more hb.size
                      have HCS := Lib.hid hcsi
                      clear hq hall y1 y2 hck
                      obtain ⟨CA, hCA⟩ : ∃ C : World → Prop, C = fun w' => w'.cell? ⟨w.heap.size, j, none⟩ = some (.slice A1 2 c1) := ⟨_, rfl⟩
                      obtain ⟨CB, hCB⟩ : ∃ C : World → Prop, C = fun w' => w'.cell? ⟨GB, 1, none⟩ = some (.int .i64 cc) := ⟨_, rfl⟩
                      obtain ⟨CC, hCC⟩ : ∃ C : World → Prop, C = fun w' => w'.cell? ⟨GB, 2, none⟩ = some (.int .i64 tt) := ⟨_, rfl⟩
                      obtain ⟨CD, hCD⟩ : ∃ C : World → Prop, C = fun w' => w'.cell? ⟨b, off + k * 6 + 4, none⟩ = some (.int .i64 2) := ⟨_, rfl⟩
                      have lift : ∀ w', w'.heap[w.heap.size]? = some (.cells cs 44 (0, 0)) → w'.heap[GB]? = some (.cells #[.int .i64 wv, .int .i64 cc, .int .i64 tt] 42 (0, 0)) → RowsAt w' w'.heap.size 6 (some ⟨b, off, none⟩) n (fun i => (f i).cells) → ∀ listed, held [(17, CA), (11, CB), (11, CC), (17, CD)] listed w' := fun w' h1 h2 h3 listed p hp _ => by
                        simp only [List.mem_cons, List.not_mem_nil, or_false] at hp
                        rcases hp with rfl | rfl | rfl | rfl
                        · rw [hCA]; exact (cell_of_block h1 j).trans HCS.out
                        · rw [hCB]; exact cell_of_block h2 1
                        · rw [hCC]; exact cell_of_block h2 2
                        · rw [hCD]; exact rows_at h3 hkn (j := 4) (u := .int .i64 2) (by rw [HCL.out]; rfl)
                      have done : ∀ (listed : Array Bool) w', listed.getD 17 true = true → listed.getD 11 true = true → held [(17, CA), (11, CB), (11, CC), (17, CD)] listed w' := fun listed w' e1 e2 p hp hl => by
                        simp only [List.mem_cons, List.not_mem_nil, or_false] at hp
                        rcases hp with rfl | rfl | rfl | rfl
                        · rw [e1] at hl; cases hl
                        · rw [e2] at hl; cases hl
                        · rw [e2] at hl; cases hl
                        · rw [e1] at hl; cases hl
                      have HS := lift w6.drew gM gB hRw (Array.replicate 24 false)
                      have LIFT := Lib.hid lift
                      have HCA := Lib.hid hCA
                      have HCB := Lib.hid hCB
                      have HCC := Lib.hid hCC
                      have HCD := Lib.hid hCD
                      clear hCA hCB hCC hCD lift
                      go_wp2_with fail
                      refine wp_region_heldT [(17, CA), (11, CB), (11, CC), (17, CD)] (by kernel_rfl) ?_
                      rw [show ∀ l : List Oper, l.toArray.size = l.length from fun _ => rfl]
                      simp only [List.length_cons, List.length_nil, Nat.reduceAdd]
                      generalize w6.drew = W0 at *
                      refine hT_on (i := 0) (d := (some 100)) (v := ?_) (a' := ?_) (by kernel_rfl) (by kernel_rfl) (by kernel_rfl) (by kernel_rfl) (by kernel_rfl) (fun _ _ _ h => h) HS ?_ ?_ ?_
                      rotate_left 2
                      · (intro o ho w'; simp only [List.getElem?_toArray, List.getElem?_cons_zero, Option.some.injEq] at ho; subst ho; go_simp; try with_reducible rfl)
                      · (simp only [Act.put, List.setIfInBounds_toArray, List.set_cons_succ, List.set_cons_zero]; rfl)
                      clear HS; intro HS
                      refine hT_on (i := 1) (d := (some 101)) (v := ?_) (a' := ?_) (by kernel_rfl) (by kernel_rfl) (by kernel_rfl) (by kernel_rfl) (by kernel_rfl) (fun _ _ _ h => h) HS ?_ ?_ ?_
                      rotate_left 2
                      · (intro o ho w'; simp only [List.getElem?_toArray, List.getElem?_cons_succ, List.getElem?_cons_zero, Option.some.injEq] at ho; subst ho; go_simp; try with_reducible rfl)
                      · (simp only [Act.put, List.setIfInBounds_toArray, List.set_cons_succ, List.set_cons_zero]; rfl)
                      clear HS; intro HS
                      refine hT_on (i := 2) (d := (some 102)) (v := ?_) (a' := ?_) (by kernel_rfl) (by kernel_rfl) (by kernel_rfl) (by kernel_rfl) (by kernel_rfl) (fun _ _ _ h => h) HS ?_ ?_ ?_
                      rotate_left 2
                      · (intro o ho w'; simp only [List.getElem?_toArray, List.getElem?_cons_succ, List.getElem?_cons_zero, Option.some.injEq] at ho; subst ho; go_simp; try with_reducible rfl)
                      · (simp only [Act.put, List.setIfInBounds_toArray, List.set_cons_succ, List.set_cons_zero]; rfl)
                      clear HS; intro HS
                      refine hT_on (i := 3) (d := (some 103)) (v := ?_) (a' := ?_) (by kernel_rfl) (by kernel_rfl) (by kernel_rfl) (by kernel_rfl) (by kernel_rfl) (fun _ _ _ h => h) HS ?_ ?_ ?_
                      rotate_left 2
                      · (intro o ho w'; simp only [List.getElem?_toArray, List.getElem?_cons_succ, List.getElem?_cons_zero, Option.some.injEq] at ho; subst ho; go_simp; try with_reducible rfl)
                      · (simp only [Act.put, List.setIfInBounds_toArray, List.set_cons_succ, List.set_cons_zero]; rfl)
                      clear HS; intro HS
                      refine hT_on (i := 4) (d := (some 104)) (v := ?_) (a' := ?_) (by kernel_rfl) (by kernel_rfl) (by kernel_rfl) (by kernel_rfl) (by kernel_rfl) (fun _ _ _ h => h) HS ?_ ?_ ?_
                      rotate_left 2
                      · (intro o ho w'; simp only [List.getElem?_toArray, List.getElem?_cons_succ, List.getElem?_cons_zero, Option.some.injEq] at ho; subst ho; go_simp; try with_reducible rfl)
                      · (simp only [Act.put, List.setIfInBounds_toArray, List.set_cons_succ, List.set_cons_zero]; rfl)
                      clear HS; intro HS
                      refine hT_on (i := 5) (d := (some 105)) (v := ?_) (a' := ?_) (by kernel_rfl) (by kernel_rfl) (by kernel_rfl) (by kernel_rfl) (by kernel_rfl) (fun _ _ _ h => h) HS ?_ ?_ ?_
                      rotate_left 2
                      · (intro o ho w'; simp only [List.getElem?_toArray, List.getElem?_cons_succ, List.getElem?_cons_zero, Option.some.injEq] at ho; subst ho; go_simp; try with_reducible rfl)
                      · (simp only [Act.put, List.setIfInBounds_toArray, List.set_cons_succ, List.set_cons_zero]; rfl)
                      clear HS; intro HS
                      refine hT_ld (i := 6) (m := 17) (C := CA) (d := (some 106)) (v := ?_) (a' := ?_) (by kernel_rfl) (by kernel_rfl) (by kernel_rfl) (by kernel_rfl) (by kernel_rfl) (by kernel_rfl) (by simp) (by kernel_rfl) (fun _ _ _ h => h) HS ?_ ?_ ?_
                      rotate_left 2
                      · (intro o ho w' hC; rw [HCA.out] at hC; simp only [List.getElem?_toArray, List.getElem?_cons_succ, List.getElem?_cons_zero, Option.some.injEq] at ho; subst ho; (try dsimp only at hC); go_simp; try with_reducible rfl)
                      · (simp only [Act.put, List.setIfInBounds_toArray, List.set_cons_succ, List.set_cons_zero]; rfl)
                      clear HS; intro HS
                      refine hT_on (i := 7) (d := (some 107)) (v := ?_) (a' := ?_) (by kernel_rfl) (by kernel_rfl) (by kernel_rfl) (by kernel_rfl) (by kernel_rfl) (fun _ _ _ h => h) HS ?_ ?_ ?_
                      rotate_left 2
                      · (intro o ho w'; simp only [List.getElem?_toArray, List.getElem?_cons_succ, List.getElem?_cons_zero, Option.some.injEq] at ho; subst ho; go_simp; try with_reducible rfl)
                      · (simp only [Act.put, List.setIfInBounds_toArray, List.set_cons_succ, List.set_cons_zero]; rfl)
                      clear HS; intro HS
                      refine hT_ld (i := 8) (m := 11) (C := CB) (d := (some 108)) (v := ?_) (a' := ?_) (by kernel_rfl) (by kernel_rfl) (by kernel_rfl) (by kernel_rfl) (by kernel_rfl) (by kernel_rfl) (by simp) (by kernel_rfl) (fun _ _ _ h => h) HS ?_ ?_ ?_
                      rotate_left 2
                      · (intro o ho w' hC; rw [HCB.out] at hC; simp only [List.getElem?_toArray, List.getElem?_cons_succ, List.getElem?_cons_zero, Option.some.injEq] at ho; subst ho; (try dsimp only at hC); go_simp; try with_reducible rfl)
                      · (simp only [Act.put, List.setIfInBounds_toArray, List.set_cons_succ, List.set_cons_zero]; rfl)
                      clear HS; intro HS
                      refine hT_on (i := 9) (d := (some 109)) (v := ?_) (a' := ?_) (by kernel_rfl) (by kernel_rfl) (by kernel_rfl) (by kernel_rfl) (by kernel_rfl) (fun _ _ _ h => h) HS ?_ ?_ ?_
                      rotate_left 2
                      · (intro o ho w'; simp only [List.getElem?_toArray, List.getElem?_cons_succ, List.getElem?_cons_zero, Option.some.injEq] at ho; subst ho; go_simp; try with_reducible rfl)
                      · (simp only [Act.put, List.setIfInBounds_toArray, List.set_cons_succ, List.set_cons_zero]; rfl)
                      clear HS; intro HS
                      refine hT_ld (i := 10) (m := 11) (C := CC) (d := (some 110)) (v := ?_) (a' := ?_) (by kernel_rfl) (by kernel_rfl) (by kernel_rfl) (by kernel_rfl) (by kernel_rfl) (by kernel_rfl) (by simp) (by kernel_rfl) (fun _ _ _ h => h) HS ?_ ?_ ?_
                      rotate_left 2
                      · (intro o ho w' hC; rw [HCC.out] at hC; simp only [List.getElem?_toArray, List.getElem?_cons_succ, List.getElem?_cons_zero, Option.some.injEq] at ho; subst ho; (try dsimp only at hC); go_simp; try with_reducible rfl)
                      · (simp only [Act.put, List.setIfInBounds_toArray, List.set_cons_succ, List.set_cons_zero]; rfl)
                      clear HS; intro HS
                      refine hT_on (i := 12) (d := (some 112)) (v := ?_) (a' := ?_) (by kernel_rfl) (by kernel_rfl) (by kernel_rfl) (by kernel_rfl) (by kernel_rfl) (fun _ _ _ h => h) HS ?_ ?_ ?_
                      rotate_left 2
                      · (intro o ho w'; simp only [List.getElem?_toArray, List.getElem?_cons_succ, List.getElem?_cons_zero, Option.some.injEq] at ho; subst ho; go_simp; try with_reducible rfl)
                      · (simp only [Act.put, List.setIfInBounds_toArray, List.set_cons_succ, List.set_cons_zero]; rfl)
                      clear HS; intro HS
                      refine hT_on (i := 13) (d := (some 113)) (v := ?_) (a' := ?_) (by kernel_rfl) (by kernel_rfl) (by kernel_rfl) (by kernel_rfl) (by kernel_rfl) (fun _ _ _ h => h) HS ?_ ?_ ?_
                      rotate_left 2
                      · (intro o ho w'; simp only [List.getElem?_toArray, List.getElem?_cons_succ, List.getElem?_cons_zero, Option.some.injEq] at ho; subst ho; go_simp; try with_reducible rfl)
                      · (simp only [Act.put, List.setIfInBounds_toArray, List.set_cons_succ, List.set_cons_zero]; rfl)
                      clear HS; intro HS
                      refine hT_on (i := 14) (d := (some 114)) (v := ?_) (a' := ?_) (by kernel_rfl) (by kernel_rfl) (by kernel_rfl) (by kernel_rfl) (by kernel_rfl) (fun _ _ _ h => h) HS ?_ ?_ ?_
                      rotate_left 2
                      · (intro o ho w'; simp only [List.getElem?_toArray, List.getElem?_cons_succ, List.getElem?_cons_zero, Option.some.injEq] at ho; subst ho; go_simp; try with_reducible rfl)
                      · (simp only [Act.put, List.setIfInBounds_toArray, List.set_cons_succ, List.set_cons_zero]; rfl)
                      clear HS; intro HS
                      refine hT_on (i := 15) (d := (some 115)) (v := ?_) (a' := ?_) (by kernel_rfl) (by kernel_rfl) (by kernel_rfl) (by kernel_rfl) (by kernel_rfl) (fun _ _ _ h => h) HS ?_ ?_ ?_
                      rotate_left 2
                      · (intro o ho w'; simp only [List.getElem?_toArray, List.getElem?_cons_succ, List.getElem?_cons_zero, Option.some.injEq] at ho; subst ho; go_simp; try with_reducible rfl)
                      · (simp only [Act.put, List.setIfInBounds_toArray, List.set_cons_succ, List.set_cons_zero]; rfl)
                      clear HS; intro HS
                      refine hT_ld (i := 16) (m := 17) (C := CD) (d := (some 116)) (v := ?_) (a' := ?_) (by kernel_rfl) (by kernel_rfl) (by kernel_rfl) (by kernel_rfl) (by kernel_rfl) (by kernel_rfl) (by simp) (by kernel_rfl) (fun _ _ _ h => h) HS ?_ ?_ ?_
                      rotate_left 2
                      · (intro o ho w' hC; rw [HCD.out] at hC; simp only [List.getElem?_toArray, List.getElem?_cons_succ, List.getElem?_cons_zero, Option.some.injEq] at ho; subst ho; (try dsimp only at hC); go_simp; try with_reducible rfl)
                      · (simp only [Act.put, List.setIfInBounds_toArray, List.set_cons_succ, List.set_cons_zero]; rfl)
                      clear HS; intro HS
                      refine hT_one (i := 11) (by kernel_rfl) (fun o ho K hK => ?_)
                      simp only [List.getElem?_toArray, List.getElem?_cons_succ, List.getElem?_cons_zero, Option.some.injEq] at ho; subst ho
                      go_simp
                      have hq := (Below.refl W0.heap.size W0).alloc (Nat.le_refl _) (.cells #[.int .i64 cc, .int .i64 tt] 3)
                      have gv := heap_alloc_new W0 (.cells #[.int .i64 cc, .int .i64 tt] 3)
                      have hb0s := hbs
                      replace htwo := htwo.below hq
                      replace hcnt := hcnt.below hq
                      replace hown := Own.below hown hq
                      replace hb := below_trans' hb hb.size hq
                      replace gB := blk_kept1 hq gB
                      replace gM := blk_kept1 hq gM
                      have hbs1 := Nat.le_trans hbs hq.size
                      clear hq
                      replace hRw := (hR.below hb (Nat.le_refl _)).more hb.size
                      generalize W0.alloc (.cells #[.int .i64 cc, .int .i64 tt] 3) = W1 at *
                      generalize W0.heap.size = Gv at *
                      obtain ⟨A1', c1', hs1, hr1⟩ := htwo.rows
                      injection hs1 with hs1 _ hs2
                      subst hs1 hs2
                      have hr2 := rows_cf gv
                      refine hK.out _ _ ?_ (fun HS' => ?_)
                      · exact LIFT.out W1 gM gB hRw _
                      clear hK K HS; have HS := HS'; clear HS'
                      (try simp only [Act.put, List.setIfInBounds_toArray, List.set_cons_zero, List.set_cons_succ])
                      refine hT_one (i := 17) (by kernel_rfl) (fun o ho K hK => ?_)
                      simp only [List.getElem?_toArray, List.getElem?_cons_succ, List.getElem?_cons_zero, Option.some.injEq] at ho; subst ho
                      go_simp
                      go_at_call 53
                      with_reducible refine (step53 sw A1 (some ⟨Gv, 0, none⟩) 2 2 c1 2 (cf p1 p2) (cf cc tt) 2 W1 (by omega) (by omega) (by omega) hr1 hr2).mono ?_
                      rintro en W2 ⟨o, rfl, ho, hq⟩
                      rw [HBW.out]
                      rw [HBC.out] at ho
                      replace hcnt := hcnt.below hq
                      replace gB := blk_kept1 hq gB
                      replace gM := blk_kept1 hq gM
                      have hob := Two.block (p := (q1, q2)) ho
                      have hvo := fun q hq => World.ownsRow.lt hown q hq
                      have ho2 : Two W2 (w.heap.size + 1) o (q1, q2) := Own.mono ho hbs1
                      replace hown := Own.below hown hq
                      replace hb := below_trans' hb hb.size hq
                      replace hRw := (hR.below hb (Nat.le_refl _)).more hb.size
                      clear hq ho htwo hr1 hr2 gv
                      obtain ⟨Ao, co, rfl, -⟩ := ho2.rows
                      refine hK.out _ _ ?_ (fun HS' => ?_)
                      · exact LIFT.out W2 gM gB hRw _
                      clear hK K HS; have HS := HS'; clear HS'
                      (try simp only [Act.put, List.setIfInBounds_toArray, List.set_cons_zero, List.set_cons_succ])
                      refine hT_on (i := 18) (d := (some 99)) (v := ?_) (a' := ?_) (by kernel_rfl) (by kernel_rfl) (by kernel_rfl) (by kernel_rfl) (by kernel_rfl) (fun _ _ _ h => h) HS ?_ ?_ ?_
                      rotate_left 2
                      · (intro o ho w'; simp only [List.getElem?_toArray, List.getElem?_cons_succ, List.getElem?_cons_zero, Option.some.injEq] at ho; subst ho; go_simp; try with_reducible rfl)
                      · (simp only [Act.put, List.setIfInBounds_toArray, List.set_cons_succ, List.set_cons_zero]; rfl)
                      clear HS; intro HS
                      refine hT_on (i := 19) (d := (some 118)) (v := ?_) (a' := ?_) (by kernel_rfl) (by kernel_rfl) (by kernel_rfl) (by kernel_rfl) (by kernel_rfl) (fun _ _ _ h => h) HS ?_ ?_ ?_
                      rotate_left 2
                      · (intro o ho w'; simp only [List.getElem?_toArray, List.getElem?_cons_succ, List.getElem?_cons_zero, Option.some.injEq] at ho; subst ho; go_simp; try with_reducible rfl)
                      · (simp only [Act.put, List.setIfInBounds_toArray, List.set_cons_succ, List.set_cons_zero]; rfl)
                      clear HS; intro HS
                      refine hT_on (i := 20) (d := (some 119)) (v := ?_) (a' := ?_) (by kernel_rfl) (by kernel_rfl) (by kernel_rfl) (by kernel_rfl) (by kernel_rfl) (fun _ _ _ h => h) HS ?_ ?_ ?_
                      rotate_left 2
                      · (intro o ho w'; simp only [List.getElem?_toArray, List.getElem?_cons_succ, List.getElem?_cons_zero, Option.some.injEq] at ho; subst ho; go_simp; try with_reducible rfl)
                      · (simp only [Act.put, List.setIfInBounds_toArray, List.set_cons_succ, List.set_cons_zero]; rfl)
                      clear HS; intro HS
                      refine hT_on (i := 21) (d := (some 5)) (v := ?_) (a' := ?_) (by kernel_rfl) (by kernel_rfl) (by kernel_rfl) (by kernel_rfl) (by kernel_rfl) (fun _ _ _ h => h) HS ?_ ?_ ?_
                      rotate_left 2
                      · (intro o ho w'; simp only [List.getElem?_toArray, List.getElem?_cons_succ, List.getElem?_cons_zero, Option.some.injEq] at ho; subst ho; go_simp; try with_reducible rfl)
                      · (simp only [Act.put, List.setIfInBounds_toArray, List.set_cons_succ, List.set_cons_zero]; rfl)
                      clear HS; intro HS
                      refine hT_on (i := 22) (d := (some 120)) (v := ?_) (a' := ?_) (by kernel_rfl) (by kernel_rfl) (by kernel_rfl) (by kernel_rfl) (by kernel_rfl) (fun _ _ _ h => h) HS ?_ ?_ ?_
                      rotate_left 2
                      · (intro o ho w'; simp only [List.getElem?_toArray, List.getElem?_cons_succ, List.getElem?_cons_zero, Option.some.injEq] at ho; subst ho; go_simp; try with_reducible rfl)
                      · (simp only [Act.put, List.setIfInBounds_toArray, List.set_cons_succ, List.set_cons_zero]; rfl)
                      clear HS; intro HS
                      refine hT_one (i := 23) (by kernel_rfl) (fun o ho K hK => ?_)
                      simp only [List.getElem?_toArray, List.getElem?_cons_succ, List.getElem?_cons_zero, Option.some.injEq] at ho; subst ho
                      have yM := cell_of_block gM j
                      have fM := free_of_block gM j
                      rw [HCS.out] at yM
                      go_simp
                      obtain ⟨go, hgo, hgo1, hgo2⟩ := hob
                      have hne1 : (Value.slice Ao 2 co).ownBlock ≠ some w.heap.size := by rw [hgo]; intro he; injection he with he; omega
                      have hne2 : (Value.slice Ao 2 co).ownBlock ≠ (Value.slice A7 sout.length c7).ownBlock := by rw [hgo]; intro he; have := hvo go he.symm; omega
                      have hcnt3 : CntR (W2.setCell ⟨w.heap.size, j, none⟩ (.slice Ao 2 co)) (w.heap.size + 1) w.heap.size m 44 (.slice A7 sout.length c7) (cntK g m (setC sc wv (q1, q2))) := (hcnt.set hjm ho2 hne1 hne2).congr (fun q _ => (cntK_set HIW.out q).symm)
                      have hg3 : W2.grownBy (W2.setCell ⟨w.heap.size, j, none⟩ (.slice Ao 2 co)) (some w.heap.size) := only_setCell (only_refl _ _) (.inl rfl) _
                      have hown3 : Own intC 3 1 (W2.setCell ⟨w.heap.size, j, none⟩ (.slice Ao 2 co)) (w.heap.size + 1) (.slice A7 sout.length c7) sout := Own.only hown hg3 (by omega)
                      have hb3 : Below w.heap.size w (W2.setCell ⟨w.heap.size, j, none⟩ (.slice Ao 2 co)) := hb.setCell (Nat.le_refl _) _
                      clear hcnt hown hb ho2 gB gM hg3 yM fM hRw
                      generalize W2.setCell ⟨w.heap.size, j, none⟩ (.slice Ao 2 co) = W3 at *
                      refine hK.out _ _ ?_ (fun HS' => ?_)
                      · exact done _ _ (by kernel_rfl) (by kernel_rfl)
                      clear hK K HS; have HS := HS'; clear HS'
                      (try simp only [Act.put, List.setIfInBounds_toArray, List.set_cons_zero, List.set_cons_succ])
                      refine held_done (by kernel_rfl) ?_ _
                      have hs3 : w.heap.size + 1 ≤ W3.heap.size := by obtain ⟨_, h, _⟩ := hcnt3; have := lt_of_blk h; omega
                      go_wp2_with (at_builtin; refine wpList_append_lies _ (by rfl) (.tmp 121) (.tmp 123) 44 (by rfl) (w.heap.size + 1) 3 i0 _ 1 8 Try.underlying44 hi hz0 hz1 hz2 rfl (by omega) _ _ _ (by rfl) (World.ownsRow.alloc hown3 _) ⟨W3.heap.size, 0, none⟩ 1 1 [.int .i64 nw] (by rfl) (by rfl) (World.news_of_block (heap_alloc_new W3 (.cells #[.int .i64 nw] 3))) (by simp [Value.oneCell']) (by omega) (by unfold maxLen; omega) (by omega) (by simp; omega) (W3.heap.size + 1) (by simp) ?_; intro g' cap' w7 hown7 hgrow hat hlt7)
                      have hrow : ∀ q, (Value.slice A7 sout.length c7).ownBlock = some q → w.heap.size + 1 ≤ q := fun q hq => (World.ownsRow.lt hown3 q hq).1
                      have hqa : Below W3.heap.size W3 (W3.alloc (.cells #[.int .i64 nw] 3)) := (Below.refl _ _).alloc (Nat.le_refl _) _
                      have hb7 : Below w.heap.size w w7 := (hb3.alloc hb3.size _).grown hgrow (by simp; omega) (fun q hq => by have := hrow q hq; omega)
                      have ho : Own intC 3 1 w7 (w.heap.size + 1) (.slice (some ⟨g', 0, none⟩) (sout.length + 1) cap') (sout ++ [nw]) := Own.snoc (c := intC) hown7
                      have hc7 : CntR w7 (w.heap.size + 1) w.heap.size m 44 (.slice (some ⟨g', 0, none⟩) (sout.length + 1) cap') (cntK g m (setC sc wv (q1, q2))) := (hcnt3.below hqa).app hgrow (fun he => by have := hrow _ he; omega) (by
                        rcases hat with h | h
                        · exact .inl h.symm
                        · exact .inr ⟨g', rfl, by rw [h]; simp⟩)
                      have hs7 : w.heap.size + 1 ≤ w7.heap.size := by obtain ⟨_, h, _⟩ := hc7; have := lt_of_blk h; omega
                      go_roundg (n - (k + 1))
                      case measure => have := HMK.out; omega
                      case rel =>
                        exact ⟨k + 1, by omega, rfl, by rw [HNX.out], by go_num, by rw [HNX.out]; exact ho, by rw [HNX.out]; exact hc7, hb7, hs7⟩
                    · have hnx : (⟨sw, sc, sout⟩ : BS) = runB g m f (k + 1) := by
                        have hst := HST.out
                        rw [if_neg (fun h => hok h.2)] at hst
                        rw [HRUN.out]; simp only [stepB, hst]
                      have HNX := Lib.hid hnx
                      clear hnx
                      by_cases d1 : cc < 1
                      · go_wp2_with fail
                        go_roundg (n - (k + 1))
                        case measure => have := HMK.out; omega
                        case rel =>
                          obtain ⟨q1, q2, q3, q4, q5⟩ := HBR.out _ hq5 HNX.out
                          exact ⟨k + 1, by omega, rfl, q1, by go_num, q2, q3, q4, q5⟩
                      · by_cases d2 : 10000 < cc
                        · go_wp2_with fail
                          go_roundg (n - (k + 1))
                          case measure => have := HMK.out; omega
                          case rel =>
                            obtain ⟨q1, q2, q3, q4, q5⟩ := HBR.out _ hq5 HNX.out
                            exact ⟨k + 1, by omega, rfl, q1, by go_num, q2, q3, q4, q5⟩
                        · by_cases d3 : tt < 1
                          · go_wp2_with fail
                            go_roundg (n - (k + 1))
                            case measure => have := HMK.out; omega
                            case rel =>
                              obtain ⟨q1, q2, q3, q4, q5⟩ := HBR.out _ hq5 HNX.out
                              exact ⟨k + 1, by omega, rfl, q1, by go_num, q2, q3, q4, q5⟩
                          · have d4 : 10000 < tt := by omega
                            go_wp2_with fail
                            go_roundg (n - (k + 1))
                            case measure => have := HMK.out; omega
                            case rel =>
                              obtain ⟨q1, q2, q3, q4, q5⟩ := HBR.out _ hq5 HNX.out
                              exact ⟨k + 1, by omega, rfl, q1, by go_num, q2, q3, q4, q5⟩
                · have hnx : (⟨sw, sc, sout⟩ : BS) = runB g m f (k + 1) := by
                    have hst := HST.out
                    rw [if_neg (fun h => ha h.1)] at hst
                    rw [HRUN.out]; simp only [stepB, hst]
                  have HNX := Lib.hid hnx
                  clear hnx
                  by_cases h1 : arm < 1
                  · go_upto_region 12 with fail
                    go_quiet (fail)
                    go_wp2_with fail
                    go_roundg (n - (k + 1))
                    case measure => have := HMK.out; omega
                    case rel =>
                      obtain ⟨q1, q2, q3, q4, q5⟩ := HBR.out _ (below_drewN hbi nq) HNX.out
                      exact ⟨k + 1, by omega, rfl, q1, by go_num, q2, q3, q4, q5⟩
                  · have h2 : 2 < arm := by omega
                    go_upto_region 12 with fail
                    go_quiet (fail)
                    go_wp2_with fail
                    go_roundg (n - (k + 1))
                    case measure => have := HMK.out; omega
                    case rel =>
                      obtain ⟨q1, q2, q3, q4, q5⟩ := HBR.out _ (below_drewN hbi nq) HNX.out
                      exact ⟨k + 1, by omega, rfl, q1, by go_num, q2, q3, q4, q5⟩
              · have hnx : idxW g ver (j + 1) = none := by
                  simp only [idxW, HN.out]
                  rw [hx, if_neg hv]
                have HNX := Lib.hid hnx
                clear hnx hcW hx
                go_upto_region 12 with fail
                go_quiet (fail)
                go_wp2_with fail
                go_roundg (m - (j + 1))
                case measure => have := HMJ.out; omega
                case rel => exact ⟨j + 1, by omega, rfl, by go_num, HNX.out, below_drewN hbi nq⟩
            · obtain rfl : j = m := by omega
              have hjI : ¬ (j : Int) < j := by omega
              have hnx : (⟨sw, sc, sout⟩ : BS) = runB g j f (k + 1) := by
                rw [HRUN.out]; simp [stepB, stepOk, findW_idx, HN.out]
              have HNX := Lib.hid hnx
              clear hnx
              go_upto_region 12 with fail
              go_quiet (fail)
              go_wp2_with fail
              go_roundg (n - (k + 1))
              case measure => have := HMK.out; omega
              case rel =>
                obtain ⟨q1, q2, q3, q4, q5⟩ := HBR.out _ (below_drewN hbi nq) HNX.out
                exact ⟨k + 1, by omega, rfl, q1, by go_num, q2, q3, q4, q5⟩
        · obtain rfl : k = n := by omega
          have hkI : ¬ (k : Int) < k := by omega
          go_wp2_with fail
          go_ret
          refine ⟨_, rfl, ?_, hb⟩
          unfold bpathR
          rw [HSS.out]
          exact Own.mono hown (by omega)
end Go.Proofs.Ytgonighpjpfmnaa
