/- balance.Path. -/
import Derived.Test.YtgonighpjpfmnaaBalMap
import Derived.Test.YtgonighpjpfmnaaHeldT
namespace Go.Proofs.Ytgonighpjpfmnaa
open Go.RowKit Go.Maps

theorem blk_kept1 {w w' : World} {b : Nat} {o : Obj} (hb : Below w.heap.size w w') (g : w.heap[b]? = some o) : w'.heap[b]? = some o := (hb.block _ (lt_of_blk g)).trans g
theorem rows_cf {w : World} {g : Nat} {a b : Int} (h : w.heap[g]? = some (.cells #[.int .i64 a, .int .i64 b] 3 (0, 0))) : RowsAt w w.heap.size 1 (some ⟨g, 0, none⟩) 2 (fun i => [.int .i64 (cf a b i)]) := fun _ => by
  refine ⟨g, 0, rfl, lt_of_blk h, fun i hi j u hu => ?_⟩
  have hj : j < 1 := (List.getElem?_eq_some_iff.1 hu).1
  rw [cell_of_block h]
  obtain rfl : j = 0 := by omega
  rcases (show i = 0 ∨ i = 1 by omega) with rfl | rfl <;> exact hu
theorem two_new {w : World} {B g : Nat} (hg : w.heap[g]? = some (.cells #[.int .i64 0, .int .i64 0] 3 (0, 0))) (hB : B ≤ g) : Two w B (.slice (some ⟨g, 0, none⟩) 2 2) (0, 0) :=
  ⟨rfl, .inr ⟨g, 2, #[.int .i64 0, .int .i64 0], rfl, hB, hg, by simp, by unfold maxLen; omega, rfl, rfl⟩⟩

theorem ver93 (xv xc xt : Int) (ge : Nat) (eid ecl : ByteArray) (esq etm arm ver : Int) (w : World) (hE : w.heap[ge]? = some (.cells #[.string eid, .string ecl, .int .i64 esq, .int .i64 etm, .int .i64 arm, .int .i64 ver] 32 (0, 0))) :
    Calls Try.prog 93 #[.agg #[.int .i64 xv, .int .i64 xc, .int .i64 xt], .pointer (some ⟨ge, 0, none⟩)] w fun en w' => en = .returned (.bool (decide (xv = ver))) ∧ Below w.heap.size w w' := by
  have hlt := lt_of_blk hE
  have x5 := cell_of_block hE 5
  simp only [List.getElem?_toArray, List.getElem?_cons_zero, List.getElem?_cons_succ] at x5
  go_enter Try.func93, Try.ntmps93
  go_wp2_with fail
  go_ret
  exact ⟨rfl, (Below.refl _ _).alloc (Nat.le_refl _) _⟩

/-- What IndexFunc returns. -/
def idxI (g : Nat → Wt) (ver : Int) (m : Nat) : Int := match idxW g ver m with
  | some i => i
  | none => -1

set_option maxRecDepth 100000 in
set_option maxHeartbeats 1000000 in
theorem index92 (A' : Option Addr) (m cp' : Nat) (g : Nat → Wt) (ge : Nat) (eid ecl : ByteArray) (esq etm arm ver : Int) (w : World) (hm : m ≤ 1048576) (hW : RowsAt w w.heap.size 3 A' m fun i => (g i).cells) (hE : w.heap[ge]? = some (.cells #[.string eid, .string ecl, .int .i64 esq, .int .i64 etm, .int .i64 arm, .int .i64 ver] 32 (0, 0))) :
    Calls Try.prog 92 #[.slice A' m cp', .func (.func 93) #[] #[.pointer (some ⟨ge, 0, none⟩)]] w fun en w' => en = .returned (.int .i64 (idxI g ver m)) ∧ Below w.heap.size w w' := by
  obtain ⟨R, hR⟩ : ∃ R, idxI g ver m = R := ⟨_, rfl⟩
  rw [hR]
  have HR := Lib.hid hR
  clear hR
  go_enter Try.func92, Try.ntmps92
  go_wp2_with fail
  go_loopg [8] m (fun mm s8 wr => ∃ j : Nat, j ≤ m ∧ mm = m - j ∧ s8 = .int .i64 j ∧ idxW g ver j = none ∧ Below w.heap.size w wr)
  case atStart => exact ⟨0, by omega, by omega, rfl, rfl, Below.refl _ _⟩
  case round =>
    obtain ⟨j, hj, hmj, rfl, hnone, hb⟩ := hrel
    have HMJ := Lib.hid hmj
    have HN := Lib.hid hnone
    clear hmj hnone
    by_cases hjm : j < m
    · have hjI : (j : Int) < m := by omega
      obtain ⟨b, off, rfl, hbk, hc⟩ := (hW.below hb (Nat.le_refl _)) (by omega)
      have v0 := hc j hjm 0 _ rfl
      have v1 := hc j hjm 1 _ rfl
      have v2 := hc j hjm 2 _ rfl
      simp only [Nat.add_zero] at v0
      have hE2 := (hb.block _ (lt_of_blk hE)).trans hE
      obtain ⟨⟨xv, xc, xt⟩, hgj⟩ : ∃ x, g j = x := ⟨_, rfl⟩
      rw [hgj] at v0 v1 v2
      dsimp only at v0 v1 v2
      have hcl := ver93 xv xc xt ge eid ecl esq etm arm ver wr hE2
      clear hc
      by_cases hv : xv = ver
      · rw [decide_eq_true hv] at hcl
        have HCL := Lib.hid hcl
        subst hv
        have hres : R = j := by
          rw [← HR.out, idxI, idxW_of hjm (by rw [hgj]) (idxW_none HN.out)]
        have HRES := Lib.hid hres
        clear hres hgj hcl
        go_wp2_with fail
        refine HCL.out.mono ?_
        rintro en w2 ⟨rfl, hb2⟩
        go_wp2_with fail
        go_ret
        exact ⟨by rw [HRES.out]; rfl, below_trans' hb hb.size hb2⟩
      · rw [decide_eq_false hv] at hcl
        have HCL := Lib.hid hcl
        have hnx : idxW g ver (j + 1) = none := by simp only [idxW, HN.out, hgj, if_neg hv]
        have HNX := Lib.hid hnx
        clear hnx hgj hcl
        go_wp2_with fail
        refine HCL.out.mono ?_
        rintro en w2 ⟨rfl, hb2⟩
        go_wp2_with fail
        go_roundg (m - (j + 1))
        case measure => have := HMJ.out; omega
        case rel => exact ⟨j + 1, by omega, rfl, by go_num, HNX.out, below_trans' hb hb.size hb2⟩
    · obtain rfl : j = m := by omega
      have hres : R = -1 := by rw [← HR.out, idxI, HN.out]
      have hjI : ¬ (j : Int) < j := by omega
      have HRES := Lib.hid hres
      clear hres
      go_wp2_with fail
      go_ret
      exact ⟨by rw [HRES.out]; rfl, hb⟩

theorem zero44 (w : World) : (zeroValue 44).run Try.prog w = .ok (.slice none 0 0) w := by kernel_rfl

set_option maxRecDepth 100000 in
set_option maxHeartbeats 4000000 in
theorem path63 (A : Option Addr) (n cp : Nat) (f : Nat → Ev) (A' : Option Addr) (m cp' : Nat) (g : Nat → Wt) (w : World) (hn : n ≤ 1048576) (hm : m ≤ 1048576) (hR : RowsAt w w.heap.size 6 A n fun i => (f i).cells) (hW : RowsAt w w.heap.size 3 A' m fun i => (g i).cells)
    (hf : ∀ i, i < n → -9223372036854775808 ≤ (f i).ver ∧ (f i).ver ≤ 9223372036854775807) :
    Calls Try.prog 63 #[.slice A n cp, .slice A' m cp'] w fun en w' => ∃ v, en = .returned v ∧ Own intC 3 1 w' w.heap.size v (bpathR g m f n) ∧ Below w.heap.size w w' := by
  obtain ⟨i0, hi, hz0, hz1, hz2⟩ := info_parts info3
  have hmm := @run_makeMap Try.prog
  have HF := Lib.hid hf
  clear hf
  go_enter Try.func63, Try.ntmps63
  go_upto_region 5 with fail
  have hb0 : Below w.heap.size w (w.alloc (.map #[] 0)) := (Below.refl _ _).alloc (Nat.le_refl _) _
  have hc0 := CntOk.made w (w.heap.size + 1) (.slice none 0 0)
  have hb0s : w.heap.size + 1 ≤ (w.alloc (.map #[] 0)).heap.size := by simp
  generalize w.alloc (.map #[] 0) = w1 at *
  clear hmm
  go_loopg [6, 7, 18] n (fun mm s6 s7 s18 wr => ∃ k : Nat, k ≤ n ∧ mm = n - k ∧ s6 = .int .i64 (runB g m f k).w ∧ s18 = .int .i64 k ∧ Own intC 3 1 wr (w.heap.size + 1) s7 (runB g m f k).out ∧ CntOk wr (w.heap.size + 1) w.heap.size k s7 (runB g m f k).c ∧ Below w.heap.size w wr ∧ w.heap.size + 1 ≤ wr.heap.size)
  case atStart => exact ⟨0, by omega, by omega, rfl, rfl, Own.nil _ _ _ _ _, hc0, hb0, hb0s⟩
  case round =>
    obtain ⟨k, hk, hmk, rfl, rfl, hown, hcnt, hb, hbs⟩ := hrel
    have HMK := Lib.hid hmk
    clear hmk hc0 hb0 hb0s
    have hbd := runB_bd g m f k
    have hrun : runB g m f (k + 1) = stepB g m (runB g m f k) (f k) := rfl
    obtain ⟨⟨sw, sc, sout⟩, hS⟩ : ∃ S, runB g m f k = S := ⟨_, rfl⟩
    rw [hS] at hown hcnt hbd hrun ⊢
    dsimp only at hown hcnt hbd ⊢
    have HRUN := Lib.hid hrun
    have HSS := Lib.hid hS
    clear hrun hS
    obtain ⟨A7, c7, rfl, hc7⟩ := Own.shape hown
    by_cases hkn : k < n
    · have hkI : (k : Int) < n := by omega
      have hve := HF.out k hkn
      obtain ⟨b, off, rfl, hbA, hcell⟩ := (hR.below hb (Nat.le_refl _)) (by omega)
      have v0 := hcell k hkn 0 _ rfl
      have v1 := hcell k hkn 1 _ rfl
      have v2 := hcell k hkn 2 _ rfl
      have v3 := hcell k hkn 3 _ rfl
      have v4 := hcell k hkn 4 _ rfl
      have v5 := hcell k hkn 5 _ rfl
      simp only [Nat.add_zero] at v0
      have hbl : b < wr.heap.size := by have := hb.size; omega
      have HRUN := HRUN.out
      obtain ⟨⟨eid, ecl, esq, etm, arm, ver⟩, he⟩ : ∃ e, f k = e := ⟨_, rfl⟩
      rw [he] at v0 v1 v2 v3 v4 v5 HRUN hve
      dsimp only at v0 v1 v2 v3 v4 v5 hve
      have HRUN := Lib.hid HRUN
      clear hcell he
      go_upto_region 7 with fail
      have gE := heap_alloc_new wr (.cells #[.string eid, .string ecl, .int .i64 esq, .int .i64 etm, .int .i64 arm, .int .i64 ver] 32)
      have hq : Below wr.heap.size wr (wr.alloc (.cells #[.string eid, .string ecl, .int .i64 esq, .int .i64 etm, .int .i64 arm, .int .i64 ver] 32)) := (Below.refl _ _).alloc (Nat.le_refl _) _
      replace hown := Own.below hown hq
      replace hcnt := hcnt.below hq
      replace hb := below_trans' hb hb.size hq
      replace hbs := Nat.le_trans hbs hq.size
      clear v0 v1 v2 v3 v4 v5 hbl hbA hq
      generalize wr.alloc (.cells #[.string eid, .string ecl, .int .i64 esq, .int .i64 etm, .int .i64 arm, .int .i64 ver] 32) = w2 at *
      generalize wr.heap.size = GE at *
      have hidx := index92 A' m cp' g GE eid ecl esq etm arm ver w2 hm ((hW.below hb (Nat.le_refl _)).more hb.size) gE
      obtain ⟨ix, hix⟩ : ∃ x, idxI g ver m = x := ⟨_, rfl⟩
      rw [hix] at hidx
      have HIX := Lib.hid hix
      have HI := Lib.hid hidx
      clear hidx hix
      go_wp2_with fail
      refine HI.out.mono ?_
      rintro en w3 ⟨rfl, hq⟩
      replace hown := Own.below hown hq
      replace hcnt := hcnt.below hq
      replace hb := below_trans' hb hb.size hq
      replace hbs := Nat.le_trans hbs hq.size
      replace gE := blk_kept1 hq gE
      clear hq HI
      have y4 := cell_of_block gE 4
      have y5 := cell_of_block gE 5
      simp only [List.getElem?_toArray, List.getElem?_cons_zero, List.getElem?_cons_succ] at y4 y5
      have hbr : ∀ W : World, Below w3.heap.size w3 W → (⟨sw, sc, sout⟩ : BS) = runB g m f (k + 1) → (.int .i64 sw = Value.int .i64 (runB g m f (k + 1)).w ∧ Own intC 3 1 W (w.heap.size + 1) (.slice A7 sout.length c7) (runB g m f (k + 1)).out ∧ CntOk W (w.heap.size + 1) w.heap.size (k + 1) (.slice A7 sout.length c7) (runB g m f (k + 1)).c ∧ Below w.heap.size w W ∧ w.heap.size + 1 ≤ W.heap.size) := fun W hq h => by
        rw [← h]; exact ⟨rfl, Own.below hown hq, (hcnt.mono (by omega)).below hq, below_trans' hb hb.size hq, Nat.le_trans hbs hq.size⟩
      have HBR := Lib.hid hbr
      clear hbr
      by_cases ha : arm = 1 ∨ arm = 2
      · cases hiw : idxW g ver m with
        | none =>
          have hnx : (⟨sw, sc, sout⟩ : BS) = runB g m f (k + 1) := by
            rw [HRUN.out]; simp [stepB, stepOk, findW_idx, hiw]
          have h9 : ix = -1 := by rw [← HIX.out, idxI, hiw]
          subst h9
          have HNX := Lib.hid hnx
          clear hnx
          rcases ha with rfl | rfl
          all_goals
            go_wp2_with fail
            go_roundg (n - (k + 1))
            case measure => have := HMK.out; omega
            case rel =>
              obtain ⟨q1, q2, q3, q4, q5⟩ := HBR.out w3 (Below.refl _ _) HNX.out
              exact ⟨k + 1, by omega, rfl, q1, by go_num, q2, q3, q4, q5⟩
        | some i =>
          obtain ⟨hi1, hi2, -⟩ := idxW_lt hiw
          have h9 : ix = i := by rw [← HIX.out, idxI, hiw]
          subst h9
          have hi0 : ¬ (i : Int) < 0 := by omega
          have hiI : (i : Int) < m := by omega
          have hi2' : i < m := hi1
          have hstep : stepOk g m ⟨eid, ecl, esq, etm, arm, ver⟩ = if (arm = 1 ∨ arm = 2) ∧ 1 ≤ (g i).con ∧ (g i).con ≤ 10000 ∧ 1 ≤ (g i).tre ∧ (g i).tre ≤ 10000 then some (g i) else none := by simp only [stepOk, findW_idx, hiw, Option.map_some]
          have HIW := Lib.hid hiw
          clear hiw
          obtain ⟨bW, oW, hAW, hbW, hcW⟩ := (hW.below hb (Nat.le_refl _)) (by omega)
          cases hAW
          have z1 := hcW i hi1 1 _ rfl
          have z2 := hcW i hi1 2 _ rfl
          obtain ⟨⟨wv, cc, tt⟩, hx⟩ : ∃ x, g i = x := ⟨_, rfl⟩
          rw [hx] at z1 z2 hstep
          dsimp only at z1 z2 hstep
          have HST := Lib.hid hstep
          clear hcW hx hstep hi2
          by_cases hok : 1 ≤ cc ∧ cc ≤ 10000 ∧ 1 ≤ tt ∧ tt ≤ 10000
          · obtain ⟨o1, o2, o3, o4⟩ := hok
            have hd1 : ¬ cc < 1 := by omega
            have hd2 : ¬ 10000 < cc := by omega
            have hd3 : ¬ tt < 1 := by omega
            have hd4 : ¬ 10000 < tt := by omega
            have hst := HST.out
            rw [if_pos ⟨ha, o1, o2, o3, o4⟩] at hst
            obtain ⟨q1, q2, hqq⟩ : ∃ q1 q2, bc ⟨sw, sc, sout⟩ ⟨eid, ecl, esq, etm, arm, ver⟩ ⟨wv, cc, tt⟩ = [q1, q2] := ⟨_, _, bc_two _ _ _⟩
            obtain ⟨nw, hnw⟩ : ∃ x, bw ⟨sw, sc, sout⟩ ⟨eid, ecl, esq, etm, arm, ver⟩ ⟨wv, cc, tt⟩ = x := ⟨_, rfl⟩
            obtain ⟨⟨p1, p2⟩, hp⟩ : ∃ p, sc ver = p := ⟨_, rfl⟩
            have hnx : runB g m f (k + 1) = ⟨nw, setC sc ver (q1, q2), sout ++ [nw]⟩ := by
              rw [HRUN.out]
              simp only [stepB, hst, hqq, hnw]
              rfl
            have hnwb : 0 ≤ nw ∧ nw ≤ 2305843009213693952 := by rw [← hnw]; exact balW_bd hbd.1.1 hbd.1.2
            have hbw : balW sw 2 2 (cf p1 p2) (cf cc tt) arm = nw := by rw [← hnw]; simp only [bw, hp]
            have hbc : balC sw 2 2 (cf p1 p2) (cf cc tt) arm = [q1, q2] := by rw [← hqq]; simp only [bc, hp]
            have HNX := Lib.hid hnx
            have HBW := Lib.hid hbw
            have HBC := Lib.hid hbc
            have HP := Lib.hid hp
            have hsl := hbd.2
            clear hst hqq hnw hp hnx hbw hbc hbd
            rcases ha with rfl | rfl
            · go_upto_region 9 with fail
              go_quiet (fail)
              have hqn := below_drewN (Below.refl w3.heap.size w3) nq
              replace hown := Own.below hown hqn
              replace hcnt := hcnt.below hqn
              replace hb := below_trans' hb hb.size hqn
              replace hbs := Nat.le_trans hbs hqn.size
              replace gE := blk_kept1 hqn gE
              clear hqn z1 z2 y4 y5 HBR
              generalize w3.drewN nq = w4 at *
              have y5 := cell_of_block gE 5
              simp only [List.getElem?_toArray, List.getElem?_cons_zero, List.getElem?_cons_succ] at y5
              have hcd : ∃ D : DataW Value, w4.ownsMap Try.prog 3 vElem w.heap.size k D ∧ CntD w4 (w.heap.size + 1) w.heap.size (.slice A7 sout.length c7) D sc := hcnt
              obtain ⟨D, hmap, hcd1, hcd2⟩ := hcd
              obtain ⟨u0, ps, hrun, hu0⟩ := hmap.look_ok (t := 125) (e := 44) law3 Try.underlying125 (zero44 _) (zd := .held (.slice none 0 0)) (zp := []) rfl (key := .int .i64 ver) (kl := .int .i64 ver) (keyOf_int_mk Try.underlying3 (WalkArith.wf_i64 (by omega)))
              have hcase : (Maps.has D (.int .i64 ver) = true ∧ ∃ A1 c1, u0 = .slice A1 2 c1 ∧ Two w4 (w.heap.size + 1) (.slice A1 2 c1) (p1, p2)) ∨ (Maps.has D (.int .i64 ver) = false ∧ u0 = .slice none 0 0 ∧ (p1, p2) = ((0 : Int), (0 : Int))) := by
                cases hh : Maps.has D (.int .i64 ver) with
                | true =>
                  obtain ⟨u, k1, k2, k3⟩ := hcd2 ver hh
                  have h1 := vElem_inv hu0
                  rw [k1] at h1
                  injection h1 with h1
                  subst h1
                  rw [HP.out] at k2
                  obtain ⟨A1, c1, e1, _⟩ := k2.rows
                  exact .inl ⟨rfl, A1, c1, e1, by rw [← e1]; exact k2⟩
                | false =>
                  have h1 := vElem_inv hu0
                  rw [atKey_of_not_has hh] at h1
                  injection h1 with h1
                  refine .inr ⟨rfl, h1.symm, ?_⟩
                  rw [← HP.out]; exact hcd1 ver hh
              obtain ⟨bo, hbo⟩ : ∃ b, Maps.has D (.int .i64 ver) = b := ⟨_, rfl⟩
              rw [hbo] at hrun hcase
              have HCASE := Lib.hid hcase
              clear hmap hcd1 hcd2 hu0 hbo hcase
              go_upto_if 69 with fail
              go_cut [13] (fun s13 wx => ∃ A1 c1, s13 = .slice A1 2 c1 ∧ Two wx (w.heap.size + 1) (.slice A1 2 c1) (p1, p2) ∧ Below w4.heap.size w4 wx)
              case first =>
                rcases HCASE.out with ⟨rfl, A1, c1, rfl, htw⟩ | ⟨rfl, rfl, hpp⟩
                · go_wp2_with fail
                  go_meet
                  case rel => exact ⟨A1, c1, rfl, htw, Below.refl _ _⟩
                · go_wp2_with fail
                  go_meet
                  case rel => exact ⟨_, _, rfl, by rw [hpp]; exact two_new (heap_alloc_new w4 _) hbs, (Below.refl _ _).alloc (Nat.le_refl _) _⟩
              case rest =>
                obtain ⟨A1, c1, rfl, htwo, hq⟩ := hcut
                replace hown := Own.below hown hq
                replace hcnt := hcnt.below hq
                replace hb := below_trans' hb hb.size hq
                replace hbs := Nat.le_trans hbs hq.size
                replace gE := blk_kept1 hq gE
                clear hq y5 hrun HCASE
                obtain ⟨C5, hC5⟩ : ∃ C : World → Prop, C = fun w' => w'.cell? ⟨GE, 5, none⟩ = some (.int .i64 ver) := ⟨_, rfl⟩
                obtain ⟨C4, hC4⟩ : ∃ C : World → Prop, C = fun w' => w'.cell? ⟨GE, 4, none⟩ = some (.int .i64 1) := ⟨_, rfl⟩
                have lift : ∀ w', w'.heap[GE]? = some (.cells #[.string eid, .string ecl, .int .i64 esq, .int .i64 etm, .int .i64 1, .int .i64 ver] 32 (0, 0)) → ∀ listed, held [(15, C5), (10, C4)] listed w' := fun w' h listed p hp _ => by
                  simp only [List.mem_cons, List.not_mem_nil, or_false] at hp
                  rcases hp with rfl | rfl
                  · rw [hC5]; exact cell_of_block h 5
                  · rw [hC4]; exact cell_of_block h 4
                have done : ∀ (listed : Array Bool) w', listed.getD 15 true = true → listed.getD 10 true = true → held [(15, C5), (10, C4)] listed w' := fun listed w' e1 e2 p hp hl => by
                  simp only [List.mem_cons, List.not_mem_nil, or_false] at hp
                  rcases hp with rfl | rfl
                  · rw [e1] at hl; cases hl
                  · rw [e2] at hl; cases hl
                have hq := (Below.refl wc.heap.size wc).drew
                replace hown := Own.below hown hq
                replace hcnt := hcnt.below hq
                replace htwo := htwo.below hq
                replace hb := below_trans' hb hb.size hq
                replace hbs := Nat.le_trans hbs hq.size
                replace gE := blk_kept1 hq gE
                clear hq
                have HS := lift wc.drew gE (Array.replicate 16 false)
                have LIFT := Lib.hid lift
                have HC5 := Lib.hid hC5
                have HC4 := Lib.hid hC4
                have hb0s := hbs
                clear hC5 hC4 lift
                go_wp2_with fail
                refine wp_region_heldT [(15, C5), (10, C4)] (by kernel_rfl) ?_
                rw [show ∀ l : List Oper, l.toArray.size = l.length from fun _ => rfl]
                simp only [List.length_cons, List.length_nil, Nat.reduceAdd]
                generalize wc.drew = W0 at *
                refine hT_on (i := 0) (d := (some 72)) (v := ?_) (a' := ?_) (by kernel_rfl) (by kernel_rfl) (by kernel_rfl) (by kernel_rfl) (by kernel_rfl) (fun _ _ _ h => h) HS ?_ ?_ ?_
                rotate_left 2
                · (intro o ho w'; simp only [List.getElem?_toArray, List.getElem?_cons_zero, Option.some.injEq] at ho; subst ho; go_simp; try with_reducible rfl)
                · (simp only [Act.put, List.setIfInBounds_toArray, List.set_cons_succ, List.set_cons_zero]; rfl)
                clear HS; intro HS
                refine hT_on (i := 1) (d := (some 73)) (v := ?_) (a' := ?_) (by kernel_rfl) (by kernel_rfl) (by kernel_rfl) (by kernel_rfl) (by kernel_rfl) (fun _ _ _ h => h) HS ?_ ?_ ?_
                rotate_left 2
                · (intro o ho w'; simp only [List.getElem?_toArray, List.getElem?_cons_succ, List.getElem?_cons_zero, Option.some.injEq] at ho; subst ho; go_simp; try with_reducible rfl)
                · (simp only [Act.put, List.setIfInBounds_toArray, List.set_cons_succ, List.set_cons_zero]; rfl)
                clear HS; intro HS
                refine hT_ld (i := 2) (m := 15) (C := C5) (d := (some 74)) (v := ?_) (a' := ?_) (by kernel_rfl) (by kernel_rfl) (by kernel_rfl) (by kernel_rfl) (by kernel_rfl) (by kernel_rfl) (by simp) (by kernel_rfl) (fun _ _ _ h => h) HS ?_ ?_ ?_
                rotate_left 2
                · (intro o ho w' hC; rw [HC5.out] at hC; simp only [List.getElem?_toArray, List.getElem?_cons_succ, List.getElem?_cons_zero, Option.some.injEq] at ho; subst ho; (try dsimp only at hC); go_simp; try with_reducible rfl)
                · (simp only [Act.put, List.setIfInBounds_toArray, List.set_cons_succ, List.set_cons_zero]; rfl)
                clear HS; intro HS
                refine hT_on (i := 3) (d := (some 75)) (v := ?_) (a' := ?_) (by kernel_rfl) (by kernel_rfl) (by kernel_rfl) (by kernel_rfl) (by kernel_rfl) (fun _ _ _ h => h) HS ?_ ?_ ?_
                rotate_left 2
                · (intro o ho w'; simp only [List.getElem?_toArray, List.getElem?_cons_succ, List.getElem?_cons_zero, Option.some.injEq] at ho; subst ho; go_simp; try with_reducible rfl)
                · (simp only [Act.put, List.setIfInBounds_toArray, List.set_cons_succ, List.set_cons_zero]; rfl)
                clear HS; intro HS
                refine hT_on (i := 4) (d := (some 76)) (v := ?_) (a' := ?_) (by kernel_rfl) (by kernel_rfl) (by kernel_rfl) (by kernel_rfl) (by kernel_rfl) (fun _ _ _ h => h) HS ?_ ?_ ?_
                rotate_left 2
                · (intro o ho w'; simp only [List.getElem?_toArray, List.getElem?_cons_succ, List.getElem?_cons_zero, Option.some.injEq] at ho; subst ho; go_simp; try with_reducible rfl)
                · (simp only [Act.put, List.setIfInBounds_toArray, List.set_cons_succ, List.set_cons_zero]; rfl)
                clear HS; intro HS
                refine hT_on (i := 5) (d := (some 77)) (v := ?_) (a' := ?_) (by kernel_rfl) (by kernel_rfl) (by kernel_rfl) (by kernel_rfl) (by kernel_rfl) (fun _ _ _ h => h) HS ?_ ?_ ?_
                rotate_left 2
                · (intro o ho w'; simp only [List.getElem?_toArray, List.getElem?_cons_succ, List.getElem?_cons_zero, Option.some.injEq] at ho; subst ho; go_simp; try with_reducible rfl)
                · (simp only [Act.put, List.setIfInBounds_toArray, List.set_cons_succ, List.set_cons_zero]; rfl)
                clear HS; intro HS
                refine hT_on (i := 6) (d := (some 78)) (v := ?_) (a' := ?_) (by kernel_rfl) (by kernel_rfl) (by kernel_rfl) (by kernel_rfl) (by kernel_rfl) (fun _ _ _ h => h) HS ?_ ?_ ?_
                rotate_left 2
                · (intro o ho w'; simp only [List.getElem?_toArray, List.getElem?_cons_succ, List.getElem?_cons_zero, Option.some.injEq] at ho; subst ho; go_simp; try with_reducible rfl)
                · (simp only [Act.put, List.setIfInBounds_toArray, List.set_cons_succ, List.set_cons_zero]; rfl)
                clear HS; intro HS
                refine hT_on (i := 8) (d := (some 80)) (v := ?_) (a' := ?_) (by kernel_rfl) (by kernel_rfl) (by kernel_rfl) (by kernel_rfl) (by kernel_rfl) (fun _ _ _ h => h) HS ?_ ?_ ?_
                rotate_left 2
                · (intro o ho w'; simp only [List.getElem?_toArray, List.getElem?_cons_succ, List.getElem?_cons_zero, Option.some.injEq] at ho; subst ho; go_simp; try with_reducible rfl)
                · (simp only [Act.put, List.setIfInBounds_toArray, List.set_cons_succ, List.set_cons_zero]; rfl)
                clear HS; intro HS
                refine hT_ld (i := 9) (m := 10) (C := C4) (d := (some 81)) (v := ?_) (a' := ?_) (by kernel_rfl) (by kernel_rfl) (by kernel_rfl) (by kernel_rfl) (by kernel_rfl) (by kernel_rfl) (by simp) (by kernel_rfl) (fun _ _ _ h => h) HS ?_ ?_ ?_
                rotate_left 2
                · (intro o ho w' hC; rw [HC4.out] at hC; simp only [List.getElem?_toArray, List.getElem?_cons_succ, List.getElem?_cons_zero, Option.some.injEq] at ho; subst ho; (try dsimp only at hC); go_simp; try with_reducible rfl)
                · (simp only [Act.put, List.setIfInBounds_toArray, List.set_cons_succ, List.set_cons_zero]; rfl)
                clear HS; intro HS
                refine hT_one (i := 7) (by kernel_rfl) (fun o ho K hK => ?_)
                simp only [List.getElem?_toArray, List.getElem?_cons_succ, List.getElem?_cons_zero, Option.some.injEq] at ho; subst ho
                go_simp
                have hq := (Below.refl W0.heap.size W0).alloc (Nat.le_refl _) (.cells #[.int .i64 cc, .int .i64 tt] 3)
                have gv := heap_alloc_new W0 (.cells #[.int .i64 cc, .int .i64 tt] 3)
                replace gE := blk_kept1 hq gE
                replace htwo := htwo.below hq
                replace hcnt := hcnt.below hq
                replace hown := Own.below hown hq
                replace hb := below_trans' hb hb.size hq
                have hbs1 := Nat.le_trans hbs hq.size
                clear hq
                generalize W0.alloc (.cells #[.int .i64 cc, .int .i64 tt] 3) = W1 at *
                generalize W0.heap.size = Gv at *
                obtain ⟨A1', c1', hs1, hr1⟩ := htwo.rows
                injection hs1 with hs1 _ hs2
                subst hs1 hs2
                have hr2 := rows_cf gv
                refine hK.out _ _ ?_ (fun HS' => ?_)
                · exact LIFT.out W1 gE _
                clear hK K HS; have HS := HS'; clear HS'
                (try simp only [Act.put, List.setIfInBounds_toArray, List.set_cons_zero, List.set_cons_succ])
                refine hT_one (i := 10) (by kernel_rfl) (fun o ho K hK => ?_)
                simp only [List.getElem?_toArray, List.getElem?_cons_succ, List.getElem?_cons_zero, Option.some.injEq] at ho; subst ho
                go_simp
                go_at_call 52
                with_reducible refine (step52 sw A1 (some ⟨Gv, 0, none⟩) 2 2 c1 2 (cf p1 p2) (cf cc tt) 1 W1 (by omega) (by omega) hr1 hr2).mono ?_
                rintro en W2 ⟨o, rfl, ho, hq⟩
                rw [HBW.out]
                rw [HBC.out] at ho
                replace gE := blk_kept1 hq gE
                replace hcnt := hcnt.below hq
                have hcd : ∃ D : DataW Value, W2.ownsMap Try.prog 3 vElem w.heap.size k D ∧ CntD W2 (w.heap.size + 1) w.heap.size (.slice A7 (sout).length c7) D sc := hcnt
                have hob := Two.block (p := (q1, q2)) ho
                have hvo := fun q hq => World.ownsRow.lt hown q hq
                have ho2 : Two W2 (w.heap.size + 1) o (q1, q2) := Own.mono ho hbs1
                replace hown := Own.below hown hq
                replace hb := below_trans' hb hb.size hq
                clear hq ho hcnt htwo hr1 hr2 gv
                refine hK.out _ _ ?_ (fun HS' => ?_)
                · exact LIFT.out W2 gE _
                clear hK K HS; have HS := HS'; clear HS'
                (try simp only [Act.put, List.setIfInBounds_toArray, List.set_cons_zero, List.set_cons_succ])
                refine hT_on (i := 11) (d := (some 71)) (v := ?_) (a' := ?_) (by kernel_rfl) (by kernel_rfl) (by kernel_rfl) (by kernel_rfl) (by kernel_rfl) (fun _ _ _ h => h) HS ?_ ?_ ?_
                rotate_left 2
                · (intro o ho w'; simp only [List.getElem?_toArray, List.getElem?_cons_succ, List.getElem?_cons_zero, Option.some.injEq] at ho; subst ho; go_simp; try with_reducible rfl)
                · (simp only [Act.put, List.setIfInBounds_toArray, List.set_cons_succ, List.set_cons_zero]; rfl)
                clear HS; intro HS
                refine hT_on (i := 12) (d := (some 83)) (v := ?_) (a' := ?_) (by kernel_rfl) (by kernel_rfl) (by kernel_rfl) (by kernel_rfl) (by kernel_rfl) (fun _ _ _ h => h) HS ?_ ?_ ?_
                rotate_left 2
                · (intro o ho w'; simp only [List.getElem?_toArray, List.getElem?_cons_succ, List.getElem?_cons_zero, Option.some.injEq] at ho; subst ho; go_simp; try with_reducible rfl)
                · (simp only [Act.put, List.setIfInBounds_toArray, List.set_cons_succ, List.set_cons_zero]; rfl)
                clear HS; intro HS
                refine hT_on (i := 13) (d := (some 84)) (v := ?_) (a' := ?_) (by kernel_rfl) (by kernel_rfl) (by kernel_rfl) (by kernel_rfl) (by kernel_rfl) (fun _ _ _ h => h) HS ?_ ?_ ?_
                rotate_left 2
                · (intro o ho w'; simp only [List.getElem?_toArray, List.getElem?_cons_succ, List.getElem?_cons_zero, Option.some.injEq] at ho; subst ho; go_simp; try with_reducible rfl)
                · (simp only [Act.put, List.setIfInBounds_toArray, List.set_cons_succ, List.set_cons_zero]; rfl)
                clear HS; intro HS
                refine hT_on (i := 14) (d := (some 6)) (v := ?_) (a' := ?_) (by kernel_rfl) (by kernel_rfl) (by kernel_rfl) (by kernel_rfl) (by kernel_rfl) (fun _ _ _ h => h) HS ?_ ?_ ?_
                rotate_left 2
                · (intro o ho w'; simp only [List.getElem?_toArray, List.getElem?_cons_succ, List.getElem?_cons_zero, Option.some.injEq] at ho; subst ho; go_simp; try with_reducible rfl)
                · (simp only [Act.put, List.setIfInBounds_toArray, List.set_cons_succ, List.set_cons_zero]; rfl)
                clear HS; intro HS
                refine hT_one (i := 15) (by kernel_rfl) (fun o ho K hK => ?_)
                simp only [List.getElem?_toArray, List.getElem?_cons_succ, List.getElem?_cons_zero, Option.some.injEq] at ho; subst ho
                obtain ⟨D2, hm2, hd2⟩ := hcd
                obtain ⟨W3, hrun3, hm3, hg3⟩ := hm2.update (t := 125) (e := 44) law3 Try.underlying125 (by unfold maxLen; omega) (key := .int .i64 ver) (val := o) (kl := .int .i64 ver) (d := .held o) (ps := []) (keyOf_int_mk Try.underlying3 (WalkArith.wf_i64 (by omega))) rfl
                go_simp
                obtain ⟨go, hgo, hgo1, hgo2⟩ := hob
                have hcnt : CntOk W3 (w.heap.size + 1) w.heap.size (k + 1) (.slice A7 sout.length c7) (setC sc ver (q1, q2)) := ⟨_, hm3, hd2.put hm2.isMap ho2 (by rw [hgo]; intro he; injection he with he; omega) (by rw [hgo]; intro he; have := hvo go he.symm; omega) hg3⟩
                have hown3 : Own intC 3 1 W3 (w.heap.size + 1) (.slice A7 sout.length c7) sout := World.ownsRow.kept hown hg3 (by cases hv : (Value.slice A7 sout.length c7).ownBlock with | none => exact .inl rfl | some q => exact .inr (fun he => by injection he with he; have := (World.ownsRow.lt hown q hv).1; omega))
                have hb3 : Below w.heap.size w W3 := hb.grown hg3 hb.size (fun q hq => by injection hq with hq; omega)
                clear hm2 hd2 hm3 hg3 hown hb ho2 gE hrun3
                refine hK.out _ _ ?_ (fun HS' => ?_)
                · exact done _ _ (by kernel_rfl) (by kernel_rfl)
                clear hK K HS; have HS := HS'; clear HS'
                (try simp only [Act.put, List.setIfInBounds_toArray, List.set_cons_zero, List.set_cons_succ])
                refine held_done (by kernel_rfl) ?_ _
                have hs3 : w.heap.size + 1 ≤ W3.heap.size := by have := hcnt.lt; omega
                go_wp2_with (at_builtin; refine wpList_append_lies _ (by rfl) (.tmp 85) (.tmp 87) 44 (by rfl) (w.heap.size + 1) 3 i0 _ 1 8 Try.underlying44 hi hz0 hz1 hz2 rfl (by omega) _ _ _ (by rfl) (World.ownsRow.alloc hown3 _) ⟨W3.heap.size, 0, none⟩ 1 1 [.int .i64 nw] (by rfl) (by rfl) (World.news_of_block (heap_alloc_new W3 (.cells #[.int .i64 nw] 3))) (by simp [Value.oneCell']) (by omega) (by unfold maxLen; omega) (by omega) (by simp; omega) (W3.heap.size + 1) (by simp) ?_; intro g' cap' w6 hown6 hgrow hat hlt6)
                have hrow : ∀ q, (Value.slice A7 sout.length c7).ownBlock = some q → w.heap.size + 1 ≤ q := fun q hq => (World.ownsRow.lt hown3 q hq).1
                have hqa : Below W3.heap.size W3 (W3.alloc (.cells #[.int .i64 nw] 3)) := (Below.refl _ _).alloc (Nat.le_refl _) _
                have hb6 : Below w.heap.size w w6 := (hb3.alloc hb3.size _).grown hgrow (by simp; omega) (fun q hq => by have := hrow q hq; omega)
                have ho : Own intC 3 1 w6 (w.heap.size + 1) (.slice (some ⟨g', 0, none⟩) (sout.length + 1) cap') (sout ++ [nw]) := Own.snoc (c := intC) hown6
                have hc6 : CntOk w6 (w.heap.size + 1) w.heap.size (k + 1) (.slice (some ⟨g', 0, none⟩) (sout.length + 1) cap') (setC sc ver (q1, q2)) := (hcnt.below hqa).app hgrow (fun he => by have := hrow _ he; omega) (by
                  rcases hat with h | h
                  · exact .inl h.symm
                  · exact .inr ⟨g', rfl, by rw [h]; simp⟩)
                have hs6 : w.heap.size + 1 ≤ w6.heap.size := by have := hc6.lt; omega
                go_roundg (n - (k + 1))
                case measure => have := HMK.out; omega
                case rel =>
                  exact ⟨k + 1, by omega, rfl, by rw [HNX.out], by go_num, by rw [HNX.out]; exact ho, by rw [HNX.out]; exact hc6, hb6, hs6⟩
            · go_upto_region 9 with fail
              go_quiet (fail)
              have hqn := below_drewN (Below.refl w3.heap.size w3) nq
              replace hown := Own.below hown hqn
              replace hcnt := hcnt.below hqn
              replace hb := below_trans' hb hb.size hqn
              replace hbs := Nat.le_trans hbs hqn.size
              replace gE := blk_kept1 hqn gE
              clear hqn z1 z2 y4 y5 HBR
              generalize w3.drewN nq = w4 at *
              have y5 := cell_of_block gE 5
              simp only [List.getElem?_toArray, List.getElem?_cons_zero, List.getElem?_cons_succ] at y5
              have hcd : ∃ D : DataW Value, w4.ownsMap Try.prog 3 vElem w.heap.size k D ∧ CntD w4 (w.heap.size + 1) w.heap.size (.slice A7 sout.length c7) D sc := hcnt
              obtain ⟨D, hmap, hcd1, hcd2⟩ := hcd
              obtain ⟨u0, ps, hrun, hu0⟩ := hmap.look_ok (t := 125) (e := 44) law3 Try.underlying125 (zero44 _) (zd := .held (.slice none 0 0)) (zp := []) rfl (key := .int .i64 ver) (kl := .int .i64 ver) (keyOf_int_mk Try.underlying3 (WalkArith.wf_i64 (by omega)))
              have hcase : (Maps.has D (.int .i64 ver) = true ∧ ∃ A1 c1, u0 = .slice A1 2 c1 ∧ Two w4 (w.heap.size + 1) (.slice A1 2 c1) (p1, p2)) ∨ (Maps.has D (.int .i64 ver) = false ∧ u0 = .slice none 0 0 ∧ (p1, p2) = ((0 : Int), (0 : Int))) := by
                cases hh : Maps.has D (.int .i64 ver) with
                | true =>
                  obtain ⟨u, k1, k2, k3⟩ := hcd2 ver hh
                  have h1 := vElem_inv hu0
                  rw [k1] at h1
                  injection h1 with h1
                  subst h1
                  rw [HP.out] at k2
                  obtain ⟨A1, c1, e1, _⟩ := k2.rows
                  exact .inl ⟨rfl, A1, c1, e1, by rw [← e1]; exact k2⟩
                | false =>
                  have h1 := vElem_inv hu0
                  rw [atKey_of_not_has hh] at h1
                  injection h1 with h1
                  refine .inr ⟨rfl, h1.symm, ?_⟩
                  rw [← HP.out]; exact hcd1 ver hh
              obtain ⟨bo, hbo⟩ : ∃ b, Maps.has D (.int .i64 ver) = b := ⟨_, rfl⟩
              rw [hbo] at hrun hcase
              have HCASE := Lib.hid hcase
              clear hmap hcd1 hcd2 hu0 hbo hcase
              go_upto_if 69 with fail
              go_cut [13] (fun s13 wx => ∃ A1 c1, s13 = .slice A1 2 c1 ∧ Two wx (w.heap.size + 1) (.slice A1 2 c1) (p1, p2) ∧ Below w4.heap.size w4 wx)
              case first =>
                rcases HCASE.out with ⟨rfl, A1, c1, rfl, htw⟩ | ⟨rfl, rfl, hpp⟩
                · go_wp2_with fail
                  go_meet
                  case rel => exact ⟨A1, c1, rfl, htw, Below.refl _ _⟩
                · go_wp2_with fail
                  go_meet
                  case rel => exact ⟨_, _, rfl, by rw [hpp]; exact two_new (heap_alloc_new w4 _) hbs, (Below.refl _ _).alloc (Nat.le_refl _) _⟩
              case rest =>
                obtain ⟨A1, c1, rfl, htwo, hq⟩ := hcut
                replace hown := Own.below hown hq
                replace hcnt := hcnt.below hq
                replace hb := below_trans' hb hb.size hq
                replace hbs := Nat.le_trans hbs hq.size
                replace gE := blk_kept1 hq gE
                clear hq y5 hrun HCASE
                obtain ⟨C5, hC5⟩ : ∃ C : World → Prop, C = fun w' => w'.cell? ⟨GE, 5, none⟩ = some (.int .i64 ver) := ⟨_, rfl⟩
                obtain ⟨C4, hC4⟩ : ∃ C : World → Prop, C = fun w' => w'.cell? ⟨GE, 4, none⟩ = some (.int .i64 2) := ⟨_, rfl⟩
                have lift : ∀ w', w'.heap[GE]? = some (.cells #[.string eid, .string ecl, .int .i64 esq, .int .i64 etm, .int .i64 2, .int .i64 ver] 32 (0, 0)) → ∀ listed, held [(15, C5), (10, C4)] listed w' := fun w' h listed p hp _ => by
                  simp only [List.mem_cons, List.not_mem_nil, or_false] at hp
                  rcases hp with rfl | rfl
                  · rw [hC5]; exact cell_of_block h 5
                  · rw [hC4]; exact cell_of_block h 4
                have done : ∀ (listed : Array Bool) w', listed.getD 15 true = true → listed.getD 10 true = true → held [(15, C5), (10, C4)] listed w' := fun listed w' e1 e2 p hp hl => by
                  simp only [List.mem_cons, List.not_mem_nil, or_false] at hp
                  rcases hp with rfl | rfl
                  · rw [e1] at hl; cases hl
                  · rw [e2] at hl; cases hl
                have hq := (Below.refl wc.heap.size wc).drew
                replace hown := Own.below hown hq
                replace hcnt := hcnt.below hq
                replace htwo := htwo.below hq
                replace hb := below_trans' hb hb.size hq
                replace hbs := Nat.le_trans hbs hq.size
                replace gE := blk_kept1 hq gE
                clear hq
                have HS := lift wc.drew gE (Array.replicate 16 false)
                have LIFT := Lib.hid lift
                have HC5 := Lib.hid hC5
                have HC4 := Lib.hid hC4
                have hb0s := hbs
                clear hC5 hC4 lift
                go_wp2_with fail
                refine wp_region_heldT [(15, C5), (10, C4)] (by kernel_rfl) ?_
                rw [show ∀ l : List Oper, l.toArray.size = l.length from fun _ => rfl]
                simp only [List.length_cons, List.length_nil, Nat.reduceAdd]
                generalize wc.drew = W0 at *
                refine hT_on (i := 0) (d := (some 72)) (v := ?_) (a' := ?_) (by kernel_rfl) (by kernel_rfl) (by kernel_rfl) (by kernel_rfl) (by kernel_rfl) (fun _ _ _ h => h) HS ?_ ?_ ?_
                rotate_left 2
                · (intro o ho w'; simp only [List.getElem?_toArray, List.getElem?_cons_zero, Option.some.injEq] at ho; subst ho; go_simp; try with_reducible rfl)
                · (simp only [Act.put, List.setIfInBounds_toArray, List.set_cons_succ, List.set_cons_zero]; rfl)
                clear HS; intro HS
                refine hT_on (i := 1) (d := (some 73)) (v := ?_) (a' := ?_) (by kernel_rfl) (by kernel_rfl) (by kernel_rfl) (by kernel_rfl) (by kernel_rfl) (fun _ _ _ h => h) HS ?_ ?_ ?_
                rotate_left 2
                · (intro o ho w'; simp only [List.getElem?_toArray, List.getElem?_cons_succ, List.getElem?_cons_zero, Option.some.injEq] at ho; subst ho; go_simp; try with_reducible rfl)
                · (simp only [Act.put, List.setIfInBounds_toArray, List.set_cons_succ, List.set_cons_zero]; rfl)
                clear HS; intro HS
                refine hT_ld (i := 2) (m := 15) (C := C5) (d := (some 74)) (v := ?_) (a' := ?_) (by kernel_rfl) (by kernel_rfl) (by kernel_rfl) (by kernel_rfl) (by kernel_rfl) (by kernel_rfl) (by simp) (by kernel_rfl) (fun _ _ _ h => h) HS ?_ ?_ ?_
                rotate_left 2
                · (intro o ho w' hC; rw [HC5.out] at hC; simp only [List.getElem?_toArray, List.getElem?_cons_succ, List.getElem?_cons_zero, Option.some.injEq] at ho; subst ho; (try dsimp only at hC); go_simp; try with_reducible rfl)
                · (simp only [Act.put, List.setIfInBounds_toArray, List.set_cons_succ, List.set_cons_zero]; rfl)
                clear HS; intro HS
                refine hT_on (i := 3) (d := (some 75)) (v := ?_) (a' := ?_) (by kernel_rfl) (by kernel_rfl) (by kernel_rfl) (by kernel_rfl) (by kernel_rfl) (fun _ _ _ h => h) HS ?_ ?_ ?_
                rotate_left 2
                · (intro o ho w'; simp only [List.getElem?_toArray, List.getElem?_cons_succ, List.getElem?_cons_zero, Option.some.injEq] at ho; subst ho; go_simp; try with_reducible rfl)
                · (simp only [Act.put, List.setIfInBounds_toArray, List.set_cons_succ, List.set_cons_zero]; rfl)
                clear HS; intro HS
                refine hT_on (i := 4) (d := (some 76)) (v := ?_) (a' := ?_) (by kernel_rfl) (by kernel_rfl) (by kernel_rfl) (by kernel_rfl) (by kernel_rfl) (fun _ _ _ h => h) HS ?_ ?_ ?_
                rotate_left 2
                · (intro o ho w'; simp only [List.getElem?_toArray, List.getElem?_cons_succ, List.getElem?_cons_zero, Option.some.injEq] at ho; subst ho; go_simp; try with_reducible rfl)
                · (simp only [Act.put, List.setIfInBounds_toArray, List.set_cons_succ, List.set_cons_zero]; rfl)
                clear HS; intro HS
                refine hT_on (i := 5) (d := (some 77)) (v := ?_) (a' := ?_) (by kernel_rfl) (by kernel_rfl) (by kernel_rfl) (by kernel_rfl) (by kernel_rfl) (fun _ _ _ h => h) HS ?_ ?_ ?_
                rotate_left 2
                · (intro o ho w'; simp only [List.getElem?_toArray, List.getElem?_cons_succ, List.getElem?_cons_zero, Option.some.injEq] at ho; subst ho; go_simp; try with_reducible rfl)
                · (simp only [Act.put, List.setIfInBounds_toArray, List.set_cons_succ, List.set_cons_zero]; rfl)
                clear HS; intro HS
                refine hT_on (i := 6) (d := (some 78)) (v := ?_) (a' := ?_) (by kernel_rfl) (by kernel_rfl) (by kernel_rfl) (by kernel_rfl) (by kernel_rfl) (fun _ _ _ h => h) HS ?_ ?_ ?_
                rotate_left 2
                · (intro o ho w'; simp only [List.getElem?_toArray, List.getElem?_cons_succ, List.getElem?_cons_zero, Option.some.injEq] at ho; subst ho; go_simp; try with_reducible rfl)
                · (simp only [Act.put, List.setIfInBounds_toArray, List.set_cons_succ, List.set_cons_zero]; rfl)
                clear HS; intro HS
                refine hT_on (i := 8) (d := (some 80)) (v := ?_) (a' := ?_) (by kernel_rfl) (by kernel_rfl) (by kernel_rfl) (by kernel_rfl) (by kernel_rfl) (fun _ _ _ h => h) HS ?_ ?_ ?_
                rotate_left 2
                · (intro o ho w'; simp only [List.getElem?_toArray, List.getElem?_cons_succ, List.getElem?_cons_zero, Option.some.injEq] at ho; subst ho; go_simp; try with_reducible rfl)
                · (simp only [Act.put, List.setIfInBounds_toArray, List.set_cons_succ, List.set_cons_zero]; rfl)
                clear HS; intro HS
                refine hT_ld (i := 9) (m := 10) (C := C4) (d := (some 81)) (v := ?_) (a' := ?_) (by kernel_rfl) (by kernel_rfl) (by kernel_rfl) (by kernel_rfl) (by kernel_rfl) (by kernel_rfl) (by simp) (by kernel_rfl) (fun _ _ _ h => h) HS ?_ ?_ ?_
                rotate_left 2
                · (intro o ho w' hC; rw [HC4.out] at hC; simp only [List.getElem?_toArray, List.getElem?_cons_succ, List.getElem?_cons_zero, Option.some.injEq] at ho; subst ho; (try dsimp only at hC); go_simp; try with_reducible rfl)
                · (simp only [Act.put, List.setIfInBounds_toArray, List.set_cons_succ, List.set_cons_zero]; rfl)
                clear HS; intro HS
                refine hT_one (i := 7) (by kernel_rfl) (fun o ho K hK => ?_)
                simp only [List.getElem?_toArray, List.getElem?_cons_succ, List.getElem?_cons_zero, Option.some.injEq] at ho; subst ho
                go_simp
                have hq := (Below.refl W0.heap.size W0).alloc (Nat.le_refl _) (.cells #[.int .i64 cc, .int .i64 tt] 3)
                have gv := heap_alloc_new W0 (.cells #[.int .i64 cc, .int .i64 tt] 3)
                replace gE := blk_kept1 hq gE
                replace htwo := htwo.below hq
                replace hcnt := hcnt.below hq
                replace hown := Own.below hown hq
                replace hb := below_trans' hb hb.size hq
                have hbs1 := Nat.le_trans hbs hq.size
                clear hq
                generalize W0.alloc (.cells #[.int .i64 cc, .int .i64 tt] 3) = W1 at *
                generalize W0.heap.size = Gv at *
                obtain ⟨A1', c1', hs1, hr1⟩ := htwo.rows
                injection hs1 with hs1 _ hs2
                subst hs1 hs2
                have hr2 := rows_cf gv
                refine hK.out _ _ ?_ (fun HS' => ?_)
                · exact LIFT.out W1 gE _
                clear hK K HS; have HS := HS'; clear HS'
                (try simp only [Act.put, List.setIfInBounds_toArray, List.set_cons_zero, List.set_cons_succ])
                refine hT_one (i := 10) (by kernel_rfl) (fun o ho K hK => ?_)
                simp only [List.getElem?_toArray, List.getElem?_cons_succ, List.getElem?_cons_zero, Option.some.injEq] at ho; subst ho
                go_simp
                go_at_call 52
                with_reducible refine (step52 sw A1 (some ⟨Gv, 0, none⟩) 2 2 c1 2 (cf p1 p2) (cf cc tt) 2 W1 (by omega) (by omega) hr1 hr2).mono ?_
                rintro en W2 ⟨o, rfl, ho, hq⟩
                rw [HBW.out]
                rw [HBC.out] at ho
                replace gE := blk_kept1 hq gE
                replace hcnt := hcnt.below hq
                have hcd : ∃ D : DataW Value, W2.ownsMap Try.prog 3 vElem w.heap.size k D ∧ CntD W2 (w.heap.size + 1) w.heap.size (.slice A7 (sout).length c7) D sc := hcnt
                have hob := Two.block (p := (q1, q2)) ho
                have hvo := fun q hq => World.ownsRow.lt hown q hq
                have ho2 : Two W2 (w.heap.size + 1) o (q1, q2) := Own.mono ho hbs1
                replace hown := Own.below hown hq
                replace hb := below_trans' hb hb.size hq
                clear hq ho hcnt htwo hr1 hr2 gv
                refine hK.out _ _ ?_ (fun HS' => ?_)
                · exact LIFT.out W2 gE _
                clear hK K HS; have HS := HS'; clear HS'
                (try simp only [Act.put, List.setIfInBounds_toArray, List.set_cons_zero, List.set_cons_succ])
                refine hT_on (i := 11) (d := (some 71)) (v := ?_) (a' := ?_) (by kernel_rfl) (by kernel_rfl) (by kernel_rfl) (by kernel_rfl) (by kernel_rfl) (fun _ _ _ h => h) HS ?_ ?_ ?_
                rotate_left 2
                · (intro o ho w'; simp only [List.getElem?_toArray, List.getElem?_cons_succ, List.getElem?_cons_zero, Option.some.injEq] at ho; subst ho; go_simp; try with_reducible rfl)
                · (simp only [Act.put, List.setIfInBounds_toArray, List.set_cons_succ, List.set_cons_zero]; rfl)
                clear HS; intro HS
                refine hT_on (i := 12) (d := (some 83)) (v := ?_) (a' := ?_) (by kernel_rfl) (by kernel_rfl) (by kernel_rfl) (by kernel_rfl) (by kernel_rfl) (fun _ _ _ h => h) HS ?_ ?_ ?_
                rotate_left 2
                · (intro o ho w'; simp only [List.getElem?_toArray, List.getElem?_cons_succ, List.getElem?_cons_zero, Option.some.injEq] at ho; subst ho; go_simp; try with_reducible rfl)
                · (simp only [Act.put, List.setIfInBounds_toArray, List.set_cons_succ, List.set_cons_zero]; rfl)
                clear HS; intro HS
                refine hT_on (i := 13) (d := (some 84)) (v := ?_) (a' := ?_) (by kernel_rfl) (by kernel_rfl) (by kernel_rfl) (by kernel_rfl) (by kernel_rfl) (fun _ _ _ h => h) HS ?_ ?_ ?_
                rotate_left 2
                · (intro o ho w'; simp only [List.getElem?_toArray, List.getElem?_cons_succ, List.getElem?_cons_zero, Option.some.injEq] at ho; subst ho; go_simp; try with_reducible rfl)
                · (simp only [Act.put, List.setIfInBounds_toArray, List.set_cons_succ, List.set_cons_zero]; rfl)
                clear HS; intro HS
                refine hT_on (i := 14) (d := (some 6)) (v := ?_) (a' := ?_) (by kernel_rfl) (by kernel_rfl) (by kernel_rfl) (by kernel_rfl) (by kernel_rfl) (fun _ _ _ h => h) HS ?_ ?_ ?_
                rotate_left 2
                · (intro o ho w'; simp only [List.getElem?_toArray, List.getElem?_cons_succ, List.getElem?_cons_zero, Option.some.injEq] at ho; subst ho; go_simp; try with_reducible rfl)
                · (simp only [Act.put, List.setIfInBounds_toArray, List.set_cons_succ, List.set_cons_zero]; rfl)
                clear HS; intro HS
                refine hT_one (i := 15) (by kernel_rfl) (fun o ho K hK => ?_)
                simp only [List.getElem?_toArray, List.getElem?_cons_succ, List.getElem?_cons_zero, Option.some.injEq] at ho; subst ho
                obtain ⟨D2, hm2, hd2⟩ := hcd
                obtain ⟨W3, hrun3, hm3, hg3⟩ := hm2.update (t := 125) (e := 44) law3 Try.underlying125 (by unfold maxLen; omega) (key := .int .i64 ver) (val := o) (kl := .int .i64 ver) (d := .held o) (ps := []) (keyOf_int_mk Try.underlying3 (WalkArith.wf_i64 (by omega))) rfl
                go_simp
                obtain ⟨go, hgo, hgo1, hgo2⟩ := hob
                have hcnt : CntOk W3 (w.heap.size + 1) w.heap.size (k + 1) (.slice A7 sout.length c7) (setC sc ver (q1, q2)) := ⟨_, hm3, hd2.put hm2.isMap ho2 (by rw [hgo]; intro he; injection he with he; omega) (by rw [hgo]; intro he; have := hvo go he.symm; omega) hg3⟩
                have hown3 : Own intC 3 1 W3 (w.heap.size + 1) (.slice A7 sout.length c7) sout := World.ownsRow.kept hown hg3 (by cases hv : (Value.slice A7 sout.length c7).ownBlock with | none => exact .inl rfl | some q => exact .inr (fun he => by injection he with he; have := (World.ownsRow.lt hown q hv).1; omega))
                have hb3 : Below w.heap.size w W3 := hb.grown hg3 hb.size (fun q hq => by injection hq with hq; omega)
                clear hm2 hd2 hm3 hg3 hown hb ho2 gE hrun3
                refine hK.out _ _ ?_ (fun HS' => ?_)
                · exact done _ _ (by kernel_rfl) (by kernel_rfl)
                clear hK K HS; have HS := HS'; clear HS'
                (try simp only [Act.put, List.setIfInBounds_toArray, List.set_cons_zero, List.set_cons_succ])
                refine held_done (by kernel_rfl) ?_ _
                have hs3 : w.heap.size + 1 ≤ W3.heap.size := by have := hcnt.lt; omega
                go_wp2_with (at_builtin; refine wpList_append_lies _ (by rfl) (.tmp 85) (.tmp 87) 44 (by rfl) (w.heap.size + 1) 3 i0 _ 1 8 Try.underlying44 hi hz0 hz1 hz2 rfl (by omega) _ _ _ (by rfl) (World.ownsRow.alloc hown3 _) ⟨W3.heap.size, 0, none⟩ 1 1 [.int .i64 nw] (by rfl) (by rfl) (World.news_of_block (heap_alloc_new W3 (.cells #[.int .i64 nw] 3))) (by simp [Value.oneCell']) (by omega) (by unfold maxLen; omega) (by omega) (by simp; omega) (W3.heap.size + 1) (by simp) ?_; intro g' cap' w6 hown6 hgrow hat hlt6)
                have hrow : ∀ q, (Value.slice A7 sout.length c7).ownBlock = some q → w.heap.size + 1 ≤ q := fun q hq => (World.ownsRow.lt hown3 q hq).1
                have hqa : Below W3.heap.size W3 (W3.alloc (.cells #[.int .i64 nw] 3)) := (Below.refl _ _).alloc (Nat.le_refl _) _
                have hb6 : Below w.heap.size w w6 := (hb3.alloc hb3.size _).grown hgrow (by simp; omega) (fun q hq => by have := hrow q hq; omega)
                have ho : Own intC 3 1 w6 (w.heap.size + 1) (.slice (some ⟨g', 0, none⟩) (sout.length + 1) cap') (sout ++ [nw]) := Own.snoc (c := intC) hown6
                have hc6 : CntOk w6 (w.heap.size + 1) w.heap.size (k + 1) (.slice (some ⟨g', 0, none⟩) (sout.length + 1) cap') (setC sc ver (q1, q2)) := (hcnt.below hqa).app hgrow (fun he => by have := hrow _ he; omega) (by
                  rcases hat with h | h
                  · exact .inl h.symm
                  · exact .inr ⟨g', rfl, by rw [h]; simp⟩)
                have hs6 : w.heap.size + 1 ≤ w6.heap.size := by have := hc6.lt; omega
                go_roundg (n - (k + 1))
                case measure => have := HMK.out; omega
                case rel =>
                  exact ⟨k + 1, by omega, rfl, by rw [HNX.out], by go_num, by rw [HNX.out]; exact ho, by rw [HNX.out]; exact hc6, hb6, hs6⟩
          · have hnx : (⟨sw, sc, sout⟩ : BS) = runB g m f (k + 1) := by
              have hst := HST.out
              rw [if_neg (fun h => hok h.2)] at hst
              rw [HRUN.out]; simp only [stepB, hst]
            have HNX := Lib.hid hnx
            clear hnx
            by_cases d1 : cc < 1
            · rcases ha with rfl | rfl
              all_goals
                go_upto_region 9 with fail
                go_quiet (fail)
                go_wp2_with fail
                go_roundg (n - (k + 1))
                case measure => have := HMK.out; omega
                case rel =>
                  obtain ⟨q1, q2, q3, q4, q5⟩ := HBR.out (w3.drewN nq) (below_drewN (Below.refl _ _) nq) HNX.out
                  exact ⟨k + 1, by omega, rfl, q1, by go_num, q2, q3, q4, q5⟩
            · by_cases d2 : 10000 < cc
              · rcases ha with rfl | rfl
                all_goals
                  go_upto_region 9 with fail
                  go_quiet (fail)
                  go_wp2_with fail
                  go_roundg (n - (k + 1))
                  case measure => have := HMK.out; omega
                  case rel =>
                    obtain ⟨q1, q2, q3, q4, q5⟩ := HBR.out (w3.drewN nq) (below_drewN (Below.refl _ _) nq) HNX.out
                    exact ⟨k + 1, by omega, rfl, q1, by go_num, q2, q3, q4, q5⟩
              · by_cases d3 : tt < 1
                · rcases ha with rfl | rfl
                  all_goals
                    go_upto_region 9 with fail
                    go_quiet (fail)
                    go_wp2_with fail
                    go_roundg (n - (k + 1))
                    case measure => have := HMK.out; omega
                    case rel =>
                      obtain ⟨q1, q2, q3, q4, q5⟩ := HBR.out (w3.drewN nq) (below_drewN (Below.refl _ _) nq) HNX.out
                      exact ⟨k + 1, by omega, rfl, q1, by go_num, q2, q3, q4, q5⟩
                · have d4 : 10000 < tt := by omega
                  rcases ha with rfl | rfl
                  all_goals
                    go_upto_region 9 with fail
                    go_quiet (fail)
                    go_wp2_with fail
                    go_roundg (n - (k + 1))
                    case measure => have := HMK.out; omega
                    case rel =>
                      obtain ⟨q1, q2, q3, q4, q5⟩ := HBR.out (w3.drewN nq) (below_drewN (Below.refl _ _) nq) HNX.out
                      exact ⟨k + 1, by omega, rfl, q1, by go_num, q2, q3, q4, q5⟩
      · have hnx : (⟨sw, sc, sout⟩ : BS) = runB g m f (k + 1) := by
          have hst : stepOk g m ⟨eid, ecl, esq, etm, arm, ver⟩ = none := by
            unfold stepOk
            split
            · rw [if_neg (fun h => ha h.1)]
            · rfl
          rw [HRUN.out]; simp only [stepB, hst]
        have HNX := Lib.hid hnx
        clear hnx
        have h1 : ¬ arm = 1 := fun h => ha (.inl h)
        have h2 : ¬ arm = 2 := fun h => ha (.inr h)
        go_wp2_with fail
        go_roundg (n - (k + 1))
        case measure => have := HMK.out; omega
        case rel =>
          obtain ⟨q1, q2, q3, q4, q5⟩ := HBR.out w3 (Below.refl _ _) HNX.out
          exact ⟨k + 1, by omega, rfl, q1, by go_num, q2, q3, q4, q5⟩
    · obtain rfl : k = n := by omega
      have hkI : ¬ (k : Int) < k := by omega
      go_wp2_with fail
      go_ret
      refine ⟨_, rfl, ?_, hb⟩
      unfold bpathR
      rw [HSS.out]
      exact Own.mono hown (by omega)
end Go.Proofs.Ytgonighpjpfmnaa
