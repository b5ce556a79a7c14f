/- The walk of IntervalEncloses. -/
import Derived.Test.YtpligjkbnlfhgaaDoorAwk
import Derived.Test.YtpligjkbnlfhgaaDoorPnt
import Derived.Test.YtpligjkbnlfhgaaDoorEnc1
import Derived.Test.YtpligjkbnlfhgaaDoorPair
namespace Go.Proofs.YtpligjkbnlfhgaaDoor
open Go.RowKit

/-- Two points. -/
def PQ (a b c d : Int) (W : World) (s t : Value) (wx : World) : Prop := ∃ (g h : Nat) (k l : Int) (N1 D1 N2 D2 : ByteArray), s = .pointer (some ⟨g, 0, none⟩) ∧ t = .pointer (some ⟨h, 0, none⟩) ∧
  wx.heap[g]? = some (.cells #[.string N1, .string D1] 23 (0, 0)) ∧ wx.heap[h]? = some (.cells #[.string N2, .string D2] 23 (0, 0)) ∧ Tx N1 D1 (qI k) ∧ Tx N2 D2 (qI l) ∧ (a ≤ k ∧ k ≤ b) ∧ (c ≤ l ∧ l ≤ d) ∧ Below W.heap.size W wx
theorem other_blk {w : World} {g h i : Nat} {x : Value} (hne : g ≠ h) : (w.setCell ⟨g, i, none⟩ x).heap[h]? = w.heap[h]? := Below.heap_setCell w ⟨g, i, none⟩ x h (Ne.symm hne)
theorem pq_end {a b c d k l : Int} {W U : World} {G H : Nat} {N1 D1 N2 D2 A1 A2 A3 A4 : ByteArray} (hb : Below W.heap.size W U) (hG : W.heap.size ≤ G) (hH : W.heap.size ≤ H) (hne : G ≠ H)
    (g : U.heap[G]? = some (.cells #[.string A1, .string A2] 23 (0, 0))) (h : U.heap[H]? = some (.cells #[.string A3, .string A4] 23 (0, 0)))
    (T1 : Tx N1 D1 (qI k)) (T2 : Tx N2 D2 (qI l)) (h1 : a ≤ k) (h2 : k ≤ b) (h3 : c ≤ l) (h4 : l ≤ d) :
    PQ a b c d W (.pointer (some ⟨G, 0, none⟩)) (.pointer (some ⟨H, 0, none⟩)) ((((U.setCell ⟨G, 0, none⟩ (.string N1)).setCell ⟨G, 1, none⟩ (.string D1)).setCell ⟨H, 0, none⟩ (.string N2)).setCell ⟨H, 1, none⟩ (.string D2)) := by
  refine ⟨G, H, k, l, N1, D1, N2, D2, rfl, rfl, ?_, ?_, T1, T2, ⟨h1, h2⟩, ⟨h3, h4⟩, below_sets2 (below_sets2 hb hG _ _) hH _ _⟩
  · rw [other_blk (Ne.symm hne), other_blk (Ne.symm hne)]
    exact block_set (block_set g 0 _) 1 _
  · refine block_set (block_set (cs := #[.string A3, .string A4]) ?_ 0 _) 1 _
    rw [other_blk hne, other_blk hne]; exact h

theorem set2_keep {w : World} {g S : Nat} {o : Obj} (h : w.heap[g]? = some o) (hne : g ≠ S) (u v : Value) : ((w.setCell ⟨S, 0, none⟩ u).setCell ⟨S, 1, none⟩ v).heap[g]? = some o := by
  rw [other_blk (Ne.symm hne), other_blk (Ne.symm hne)]; exact h

set_option maxRecDepth 100000 in
set_option maxHeartbeats 16000000 in
theorem intervalEncloses16 (a0 a1 a2 a3 a4 a5 a6 a7 : Int) (w : World) (_w0 : (Lit.int .i64 a0).wf = true) (_w1 : (Lit.int .i64 a1).wf = true) (_w2 : (Lit.int .i64 a2).wf = true) (_w3 : (Lit.int .i64 a3).wf = true) (w4 : (Lit.int .u8 a4).wf = true) (w5 : (Lit.int .u8 a5).wf = true) (w6 : (Lit.int .u8 a6).wf = true) (w7 : (Lit.int .u8 a7).wf = true) :
    Calls Tryd.prog 16 #[.int .i64 a0, .int .i64 a1, .int .i64 a2, .int .i64 a3, .int .u8 a4, .int .u8 a5, .int .u8 a6, .int .u8 a7] w fun e w' => e = .returned (.bool true) ∧ Below w.heap.size w w' := by
  have u8 : ∀ {x : Int}, (Lit.int .u8 x).wf = true → 0 ≤ x ∧ x ≤ 255 := fun {x} h => by simpa [Lit.wf, IntKind.min, IntKind.max, IntKind.signed, IntKind.bits] using h
  have e4 := u8 w4
  have e5 := u8 w5
  have e6 := u8 w6
  have e7 := u8 w7
  clear _w0 _w1 _w2 _w3 w4 w5 w6 w7 u8
  go_enter Tryd.func16, Tryd.ntmps16
  go_wp2_with fail
  refine (awake47 _).mono ?_
  rintro e v0 ⟨rfl, hb0⟩
  go_wp2_with fail
  refine (made6 a0 a1 a4 _ e4).mono ?_
  rintro e v1 ⟨a, b, rfl, hi1, hb1⟩
  have hB1 := below_trans' hb0 hb0.size hb1
  go_wp2_with fail
  refine (made6 a2 a3 a5 _ e5).mono ?_
  rintro e v2 ⟨c, d, rfl, hi2, hb2⟩
  have hB2 := below_trans' hB1 hB1.size hb2
  obtain ⟨hal, gX, gY⟩ := allocs2' v2 #[.int .i64 a, .int .i64 b] #[.int .i64 c, .int .i64 d] 69 69
  have hB3 := below_trans' hB2 hB2.size hal
  have hv2 : v2.heap.size < ((v2.alloc (.cells #[.int .i64 a, .int .i64 b] 69)).alloc (.cells #[.int .i64 c, .int .i64 d] 69)).heap.size := lt_of_blk gX
  clear hb0 hb1 hb2 hB1 hB2 hal e4 e5
  have hS : ∀ w', Below ((v2.alloc (.cells #[.int .i64 a, .int .i64 b] 69)).alloc (.cells #[.int .i64 c, .int .i64 d] 69)).heap.size ((v2.alloc (.cells #[.int .i64 a, .int .i64 b] 69)).alloc (.cells #[.int .i64 c, .int .i64 d] 69)) w' → (w'.cell? ⟨v2.heap.size, 0, none⟩ = some (.int .i64 a) ∧ w'.cell? ⟨v2.heap.size, 1, none⟩ = some (.int .i64 b)) ∧ (w'.cell? ⟨v2.heap.size + 1, 0, none⟩ = some (.int .i64 c) ∧ w'.cell? ⟨v2.heap.size + 1, 1, none⟩ = some (.int .i64 d)) :=
    fun w' h => ⟨cells2i (blk_below h gX), cells2i (blk_below h gY)⟩
  have HS := Lib.hid hS
  clear hS
  go_upto_region 4 with fail
  generalize hWW : (v2.alloc (.cells #[.int .i64 a, .int .i64 b] 69)).alloc (.cells #[.int .i64 c, .int .i64 d] 69) = W at *
  clear hWW
  generalize hX : v2.heap.size = X at *
  have hbd : Below W.heap.size W W.drew := (Below.refl W.heap.size W).drew
  obtain ⟨N1, D1, T1, C1⟩ := point_det hi1 e6
  obtain ⟨N2, D2, T2, C2⟩ := point_det hi2 e7
  have t1 := pt_in hi1 e6
  have t2 := pt_in hi2 e7
  have HC1 := Lib.hid C1
  have HC2 := Lib.hid C2
  clear C1 C2 hX
  go_cut [19, 20] (fun s19 s20 wx => PQ a b c d W s19 s20 wx)
  case first =>
    have hz : ∀ x : Beh LeW W.drew, Below W.heap.size W x.w := fun x => below_trans' hbd hbd.size x.h
    have z1 := fun x : Beh LeW W.drew => (HS.out _ (hz x)).1.1
    have z2 := fun x : Beh LeW W.drew => (HS.out _ (hz x)).1.2
    have z3 := fun x : Beh LeW W.drew => (HS.out _ (hz x)).2.1
    have z4 := fun x : Beh LeW W.drew => (HS.out _ (hz x)).2.2
    refine wp_region_pair (R := LeW) (fun v u => v ≠ u) 8 175 [] [(2, [], none, []), (5, [], none, []), (6, [], some (fresh W.heap.size #[.string ⟨#[]⟩, .string ⟨#[]⟩] 23), [fresh W.heap.size #[.string ⟨#[]⟩, .string ⟨#[]⟩] 23]), (7, [], some (fresh W.heap.size #[.string ⟨#[]⟩, .string ⟨#[]⟩] 23), [fresh W.heap.size #[.string ⟨#[]⟩, .string ⟨#[]⟩] 23])] [6, 7] [19, 20]
      (by kernel_rfl) (by kernel_rfl) (by kernel_rfl) (by kernel_rfl) (fun h => absurd rfl h) rfl LeW.refl (fun _ _ _ => LeW.trans) (fun _ _ h => Ne.symm h) ⟨by kernel_rfl, by decide, by decide⟩ (sib2 (.tail _ (.tail _ (.head _))) (.tail _ (.tail _ (.tail _ (.head _))))) ?_
    simp only [LateP, List.take_succ_cons, List.drop_succ_cons, List.take_zero, List.drop_zero, Nat.reduceSub, Nat.reduceAdd, Nat.sub_zero]
    repeat (go_big_quiet_step (fail))
    refine wpQuiet_nil ?_
    refine late_call Tryd.func53 (by kernel_rfl) (by kernel_rfl) (fun x => HC1.out x.w) rfl (by simp only [Act.put, List.setIfInBounds_toArray, List.set_cons_succ, List.set_cons_zero]; rfl) ?_
    repeat (go_big_quiet_step (fail))
    refine wpQuiet_nil ?_
    refine late_call Tryd.func53 (by kernel_rfl) (by kernel_rfl) (fun x => HC2.out x.w) rfl (by simp only [Act.put, List.setIfInBounds_toArray, List.set_cons_succ, List.set_cons_zero]; rfl) ?_
    refine wpQuiet_nil ?_
    refine pair_alloc (fun _ _ => by kernel_rfl) (fun x => (hz x).size) fresh_sib (by simp only [Act.put, List.setIfInBounds_toArray, List.set_cons_succ, List.set_cons_zero]; rfl) ?_
    refine wpQuiet_nil ?_
    refine pair_alloc (fun _ _ => by kernel_rfl) (fun x => (hz x).size) fresh_sib (by simp only [Act.put, List.setIfInBounds_toArray, List.set_cons_succ, List.set_cons_zero]; rfl) ?_
    refine wpQuiet_nil ?_
    intro x
    simp only [List.nil_append, List.cons_append, allGens, Option.getD_some]
    rintro v19 ⟨g, rfl, hg, gb⟩ v20 ⟨h, rfl, hh, gh⟩ hdist
    simp only [Act.put, List.setIfInBounds_toArray, List.set_cons_succ, List.set_cons_zero]
    have hne : g ≠ h := fun e => by
      have := List.rel_of_pairwise_cons hdist (List.mem_singleton.2 rfl)
      exact this (by rw [e]; rfl)
    have hB := hz x
    have y1 := cells2 gb
    have y2 := cells2 gh
    have f1 := free_of_block gb
    have f2 := free_of_block gh
    clear hdist z1 z2 z3 z4 hz
    generalize x.w = U at *
    go_wp2_with fail
    go_meet
    case rel => exact pq_end hB hg hh hne gb gh T1 T2 t1.1 t1.2 t2.1 t2.2
  case rest =>
    obtain ⟨p, q, k, l, N1, D1, N2, D2, rfl, rfl, gP, gQ, T1, T2, hk, hl, hBc⟩ := hcut
    clear HS HC1 HC2 t1 t2 e6 e7
    have hXW := blk_below hBc gX
    have hYW := blk_below hBc gY
    obtain ⟨X1, Y1, o1, A1, B1, ok1, P1⟩ := stp_add hi1 hi2 hk hl T1 T2
    have F1 := Lib.hid P1.f
    have G1 := Lib.hid P1.g
    have K1 := Lib.hid P1.con
    obtain ⟨X2, Y2, o2, A2, B2, ok2, P2⟩ := stp_sub hi1 hi2 hk hl T1 T2
    have F2 := Lib.hid P2.f
    have G2 := Lib.hid P2.g
    have K2 := Lib.hid P2.con
    obtain ⟨X3, Y3, o3, A3, B3, ok3, P3⟩ := stp_mul hi1 hi2 hk hl T1 T2
    have F3 := Lib.hid P3.f
    have G3 := Lib.hid P3.g
    have K3 := Lib.hid P3.con
    obtain ⟨X4, Y4, o4, A4, B4, ok4, P4⟩ := stp_div hi1 hi2 hk hl T1 T2
    have F4 := Lib.hid P4.f
    have G4 := Lib.hid P4.g
    have K4 := Lib.hid P4.con
    have c1 := fun w => contains51 a b N1 D1 w (by have := inI_iff.1 hi1; omega) (by have := inI_iff.1 hi1; omega) T1.lens.1 T1.lens.2
    have c2 := fun w => contains51 c d N2 D2 w (by have := inI_iff.1 hi2; omega) (by have := inI_iff.1 hi2; omega) T2.lens.1 T2.lens.2
    rw [con_yes T1 hi1 (qI_le.2 hk.1) (qI_le.2 hk.2)] at c1
    rw [con_yes T2 hi2 (qI_le.2 hl.1) (qI_le.2 hl.2)] at c2
    have CC1 := Lib.hid c1
    have CC2 := Lib.hid c2
    clear c1 c2 P1 P2 P3 P4 gX gY hv2
    have hB4 := below_trans' hB3 hB3.size hBc
    clear hB3 hBc hbd
    generalize hX1 : X + 1 = Y at *
    clear hX1
    have x1 := cells2i hXW
    have x2 := cells2i hYW
    have x3 := cells2 gP
    have x4 := cells2 gQ
    go_wp2_with fail
    refine (CC1.out _).mono ?_
    rintro e y1 ⟨rfl, hb⟩
    replace hXW := blk_below hb hXW
    replace hYW := blk_below hb hYW
    replace gP := blk_below hb gP
    replace gQ := blk_below hb gQ
    replace hB4 := below_trans' hB4 hB4.size hb
    replace x1 := cells2i hXW
    replace x2 := cells2i hYW
    replace x3 := cells2 gP
    replace x4 := cells2 gQ
    clear hb
    go_wp2_with fail
    refine (CC2.out _).mono ?_
    rintro e y2 ⟨rfl, hb⟩
    replace hXW := blk_below hb hXW
    replace hYW := blk_below hb hYW
    replace gP := blk_below hb gP
    replace gQ := blk_below hb gQ
    replace hB4 := below_trans' hB4 hB4.size hb
    replace x1 := cells2i hXW
    replace x2 := cells2i hYW
    replace x3 := cells2 gP
    replace x4 := cells2 gQ
    clear hb
    clear CC1 CC2
    go_wp2_with fail
    refine (F1.out _).mono ?_
    rintro e z1 ⟨rfl, hb⟩
    replace hB4 := below_trans' hB4 hB4.size hb
    have hwS : w.heap.size ≤ z1.heap.size := hB4.size
    have gS := heap_alloc_new z1 (.cells #[.int .i64 X1, .int .i64 Y1] 69)
    replace hXW := blk_below hb hXW
    replace hYW := blk_below hb hYW
    replace gP := blk_below hb gP
    replace gQ := blk_below hb gQ
    have lhXW := lt_of_blk hXW
    have lhYW := lt_of_blk hYW
    have lgP := lt_of_blk gP
    have lgQ := lt_of_blk gQ
    have hba : Below z1.heap.size z1 (z1.alloc (.cells #[.int .i64 X1, .int .i64 Y1] 69)) := (Below.refl _ _).alloc (Nat.le_refl _) _
    replace hXW := blk_below hba hXW
    replace hYW := blk_below hba hYW
    replace gP := blk_below hba gP
    replace gQ := blk_below hba gQ
    replace hB4 := below_trans' hB4 hB4.size hba
    replace x1 := cells2i hXW
    replace x2 := cells2i hYW
    replace x3 := cells2 gP
    replace x4 := cells2 gQ
    have x5 := cells2i gS
    have f5 := free_of_block gS
    clear hba hb
    go_wp2_with fail
    refine (G1.out _).mono ?_
    rintro e q1 ⟨rfl, hb⟩
    replace hXW := blk_below hb hXW
    replace hYW := blk_below hb hYW
    replace gP := blk_below hb gP
    replace gQ := blk_below hb gQ
    replace gS := blk_below hb gS
    have mhXW := lt_of_blk hXW
    have mhYW := lt_of_blk hYW
    have mgP := lt_of_blk gP
    have mgQ := lt_of_blk gQ
    have mgS := lt_of_blk gS
    have hba : Below q1.heap.size q1 (q1.alloc (.cells #[.string A1, .string B1] 23)) := (Below.refl _ _).alloc (Nat.le_refl _) _
    have gT := heap_alloc_new q1 (.cells #[.string A1, .string B1] 23)
    replace hB4 := below_trans' hB4 hB4.size hb
    have hwT : w.heap.size ≤ q1.heap.size := hB4.size
    replace hXW := blk_below hba hXW
    replace hYW := blk_below hba hYW
    replace gP := blk_below hba gP
    replace gQ := blk_below hba gQ
    replace gS := blk_below hba gS
    replace hB4 := below_trans' hB4 hB4.size hba
    replace x1 := cells2i hXW
    replace x2 := cells2i hYW
    replace x3 := cells2 gP
    replace x4 := cells2 gQ
    replace x5 := cells2i gS
    replace f5 := free_of_block gS
    have x6 := cells2 gT
    have f6 := free_of_block gT
    clear hb hba
    go_upto_region 9 with fail
    generalize q1.alloc (.cells #[.string A1, .string B1] 23) = V1 at *
    generalize hNS : z1.heap.size = NS at *
    generalize hNT : q1.heap.size = NT at *
    clear hNS hNT
    have nhXW := Nat.ne_of_lt lhXW
    have rhXW := Nat.ne_of_lt mhXW
    have nhYW := Nat.ne_of_lt lhYW
    have rhYW := Nat.ne_of_lt mhYW
    have ngP := Nat.ne_of_lt lgP
    have rgP := Nat.ne_of_lt mgP
    have ngQ := Nat.ne_of_lt lgQ
    have rgQ := Nat.ne_of_lt mgQ
    have nST := Nat.ne_of_lt mgS
    have nTS := Ne.symm nST
    clear lhXW lhYW lgP lgQ mhXW mhYW mgP mgQ mgS
    go_cut [73] (fun s73 wx => s73 = .bool false ∧ Below V1.heap.size V1 wx)
    case first =>
      cases o1 with
      | false =>
        go_wp2_with fail
        go_meet
        case rel => exact ⟨rfl, Below.refl _ _⟩
      | true =>
        have kc := K1.out rfl
        have KC := Lib.hid kc
        clear kc
        go_wp2_with fail
        refine (KC.out _).mono ?_
        rintro e y ⟨rfl, hb⟩
        go_wp2_with fail
        go_meet
        case rel => exact ⟨rfl, hb⟩
    case rest =>
      obtain ⟨rfl, hb⟩ := hcut
      replace hXW := blk_below hb hXW
      replace hYW := blk_below hb hYW
      replace gP := blk_below hb gP
      replace gQ := blk_below hb gQ
      replace gS := blk_below hb gS
      replace gT := blk_below hb gT
      replace hB4 := below_trans' hB4 hB4.size hb
      replace x1 := cells2i hXW
      replace x2 := cells2i hYW
      replace x3 := cells2 gP
      replace x4 := cells2 gQ
      replace x5 := cells2i gS
      replace f5 := free_of_block gS
      replace x6 := cells2 gT
      replace f6 := free_of_block gT
      clear hb
      clear K1
      go_wp2_with fail
      refine (F2.out _).mono ?_
      rintro e z2 ⟨rfl, hb⟩
      replace hXW := blk_below hb hXW
      replace hYW := blk_below hb hYW
      replace gP := blk_below hb gP
      replace gQ := blk_below hb gQ
      replace gS := blk_below hb gS
      replace gT := blk_below hb gT
      replace hB4 := below_trans' hB4 hB4.size hb
      have gS' := block_set (block_set gS 0 (.int .i64 X2)) 1 (.int .i64 Y2)
      replace hXW := set2_keep hXW nhXW (.int .i64 X2) (.int .i64 Y2)
      replace hYW := set2_keep hYW nhYW (.int .i64 X2) (.int .i64 Y2)
      replace gP := set2_keep gP ngP (.int .i64 X2) (.int .i64 Y2)
      replace gQ := set2_keep gQ ngQ (.int .i64 X2) (.int .i64 Y2)
      replace gT := set2_keep gT nTS (.int .i64 X2) (.int .i64 Y2)
      replace x5 := cells2i gS
      replace f5 := free_of_block gS
      replace gS : ((z2.setCell ⟨NS, 0, none⟩ (.int .i64 X2)).setCell ⟨NS, 1, none⟩ (.int .i64 Y2)).heap[NS]? = some (.cells #[.int .i64 X2, .int .i64 Y2] 69 (0, 0)) := gS'
      replace hB4 := below_sets2 hB4 hwS (.int .i64 X2) (.int .i64 Y2)
      clear gS' hb
      replace x1 := cells2i hXW
      replace x2 := cells2i hYW
      replace x3 := cells2 gP
      replace x4 := cells2 gQ
      have x5' := cells2i gS
      replace x6 := cells2 gT
      replace f6 := free_of_block gT
      go_wp2_with fail
      generalize (z2.setCell ⟨NS, 0, none⟩ (.int .i64 X2)).setCell ⟨NS, 1, none⟩ (.int .i64 Y2) = u2 at *
      clear x5 f5
      have x5 := x5'
      have f5 := free_of_block gS
      clear x5'
      refine (G2.out _).mono ?_
      rintro e q2 ⟨rfl, hb⟩
      replace hXW := blk_below hb hXW
      replace hYW := blk_below hb hYW
      replace gP := blk_below hb gP
      replace gQ := blk_below hb gQ
      replace gS := blk_below hb gS
      replace gT := blk_below hb gT
      replace hB4 := below_trans' hB4 hB4.size hb
      have gT' := block_set (block_set gT 0 (.string A2)) 1 (.string B2)
      replace hXW := set2_keep hXW rhXW (.string A2) (.string B2)
      replace hYW := set2_keep hYW rhYW (.string A2) (.string B2)
      replace gP := set2_keep gP rgP (.string A2) (.string B2)
      replace gQ := set2_keep gQ rgQ (.string A2) (.string B2)
      replace gS := set2_keep gS nST (.string A2) (.string B2)
      replace x6 := cells2 gT
      replace f6 := free_of_block gT
      replace gT : ((q2.setCell ⟨NT, 0, none⟩ (.string A2)).setCell ⟨NT, 1, none⟩ (.string B2)).heap[NT]? = some (.cells #[.string A2, .string B2] 23 (0, 0)) := gT'
      replace hB4 := below_sets2 hB4 hwT (.string A2) (.string B2)
      clear gT' hb
      replace x1 := cells2i hXW
      replace x2 := cells2i hYW
      replace x3 := cells2 gP
      replace x4 := cells2 gQ
      replace x5 := cells2i gS
      replace f5 := free_of_block gS
      have x6' := cells2 gT
      go_upto_region 13 with fail
      generalize (q2.setCell ⟨NT, 0, none⟩ (.string A2)).setCell ⟨NT, 1, none⟩ (.string B2) = V2 at *
      clear x6 f6
      have x6 := x6'
      have f6 := free_of_block gT
      clear x6'
      go_cut [92] (fun s92 wx => s92 = .bool false ∧ Below V2.heap.size V2 wx)
      case first =>
        cases o2 with
        | false =>
          go_wp2_with fail
          go_meet
          case rel => exact ⟨rfl, Below.refl _ _⟩
        | true =>
          have kc := K2.out rfl
          have KC := Lib.hid kc
          clear kc
          go_wp2_with fail
          refine (KC.out _).mono ?_
          rintro e y ⟨rfl, hb⟩
          go_wp2_with fail
          go_meet
          case rel => exact ⟨rfl, hb⟩
      case rest =>
        obtain ⟨rfl, hb⟩ := hcut
        replace hXW := blk_below hb hXW
        replace hYW := blk_below hb hYW
        replace gP := blk_below hb gP
        replace gQ := blk_below hb gQ
        replace gS := blk_below hb gS
        replace gT := blk_below hb gT
        replace hB4 := below_trans' hB4 hB4.size hb
        replace x1 := cells2i hXW
        replace x2 := cells2i hYW
        replace x3 := cells2 gP
        replace x4 := cells2 gQ
        replace x5 := cells2i gS
        replace f5 := free_of_block gS
        replace x6 := cells2 gT
        replace f6 := free_of_block gT
        clear hb
        clear K2
        go_wp2_with fail
        refine (F3.out _).mono ?_
        rintro e z3 ⟨rfl, hb⟩
        replace hXW := blk_below hb hXW
        replace hYW := blk_below hb hYW
        replace gP := blk_below hb gP
        replace gQ := blk_below hb gQ
        replace gS := blk_below hb gS
        replace gT := blk_below hb gT
        replace hB4 := below_trans' hB4 hB4.size hb
        have gS' := block_set (block_set gS 0 (.int .i64 X3)) 1 (.int .i64 Y3)
        replace hXW := set2_keep hXW nhXW (.int .i64 X3) (.int .i64 Y3)
        replace hYW := set2_keep hYW nhYW (.int .i64 X3) (.int .i64 Y3)
        replace gP := set2_keep gP ngP (.int .i64 X3) (.int .i64 Y3)
        replace gQ := set2_keep gQ ngQ (.int .i64 X3) (.int .i64 Y3)
        replace gT := set2_keep gT nTS (.int .i64 X3) (.int .i64 Y3)
        replace x5 := cells2i gS
        replace f5 := free_of_block gS
        replace gS : ((z3.setCell ⟨NS, 0, none⟩ (.int .i64 X3)).setCell ⟨NS, 1, none⟩ (.int .i64 Y3)).heap[NS]? = some (.cells #[.int .i64 X3, .int .i64 Y3] 69 (0, 0)) := gS'
        replace hB4 := below_sets2 hB4 hwS (.int .i64 X3) (.int .i64 Y3)
        clear gS' hb
        replace x1 := cells2i hXW
        replace x2 := cells2i hYW
        replace x3 := cells2 gP
        replace x4 := cells2 gQ
        have x5' := cells2i gS
        replace x6 := cells2 gT
        replace f6 := free_of_block gT
        go_wp2_with fail
        generalize (z3.setCell ⟨NS, 0, none⟩ (.int .i64 X3)).setCell ⟨NS, 1, none⟩ (.int .i64 Y3) = u3 at *
        clear x5 f5
        have x5 := x5'
        have f5 := free_of_block gS
        clear x5'
        refine (G3.out _).mono ?_
        rintro e q3 ⟨rfl, hb⟩
        replace hXW := blk_below hb hXW
        replace hYW := blk_below hb hYW
        replace gP := blk_below hb gP
        replace gQ := blk_below hb gQ
        replace gS := blk_below hb gS
        replace gT := blk_below hb gT
        replace hB4 := below_trans' hB4 hB4.size hb
        have gT' := block_set (block_set gT 0 (.string A3)) 1 (.string B3)
        replace hXW := set2_keep hXW rhXW (.string A3) (.string B3)
        replace hYW := set2_keep hYW rhYW (.string A3) (.string B3)
        replace gP := set2_keep gP rgP (.string A3) (.string B3)
        replace gQ := set2_keep gQ rgQ (.string A3) (.string B3)
        replace gS := set2_keep gS nST (.string A3) (.string B3)
        replace x6 := cells2 gT
        replace f6 := free_of_block gT
        replace gT : ((q3.setCell ⟨NT, 0, none⟩ (.string A3)).setCell ⟨NT, 1, none⟩ (.string B3)).heap[NT]? = some (.cells #[.string A3, .string B3] 23 (0, 0)) := gT'
        replace hB4 := below_sets2 hB4 hwT (.string A3) (.string B3)
        clear gT' hb
        replace x1 := cells2i hXW
        replace x2 := cells2i hYW
        replace x3 := cells2 gP
        replace x4 := cells2 gQ
        replace x5 := cells2i gS
        replace f5 := free_of_block gS
        have x6' := cells2 gT
        go_upto_region 17 with fail
        generalize (q3.setCell ⟨NT, 0, none⟩ (.string A3)).setCell ⟨NT, 1, none⟩ (.string B3) = V3 at *
        clear x6 f6
        have x6 := x6'
        have f6 := free_of_block gT
        clear x6'
        go_cut [111] (fun s111 wx => s111 = .bool false ∧ Below V3.heap.size V3 wx)
        case first =>
          cases o3 with
          | false =>
            go_wp2_with fail
            go_meet
            case rel => exact ⟨rfl, Below.refl _ _⟩
          | true =>
            have kc := K3.out rfl
            have KC := Lib.hid kc
            clear kc
            go_wp2_with fail
            refine (KC.out _).mono ?_
            rintro e y ⟨rfl, hb⟩
            go_wp2_with fail
            go_meet
            case rel => exact ⟨rfl, hb⟩
        case rest =>
          obtain ⟨rfl, hb⟩ := hcut
          replace hXW := blk_below hb hXW
          replace hYW := blk_below hb hYW
          replace gP := blk_below hb gP
          replace gQ := blk_below hb gQ
          replace gS := blk_below hb gS
          replace gT := blk_below hb gT
          replace hB4 := below_trans' hB4 hB4.size hb
          replace x1 := cells2i hXW
          replace x2 := cells2i hYW
          replace x3 := cells2 gP
          replace x4 := cells2 gQ
          replace x5 := cells2i gS
          replace f5 := free_of_block gS
          replace x6 := cells2 gT
          replace f6 := free_of_block gT
          clear hb
          clear K3
          go_wp2_with fail
          refine (F4.out _).mono ?_
          rintro e z4 ⟨rfl, hb⟩
          replace hXW := blk_below hb hXW
          replace hYW := blk_below hb hYW
          replace gP := blk_below hb gP
          replace gQ := blk_below hb gQ
          replace gS := blk_below hb gS
          replace gT := blk_below hb gT
          replace hB4 := below_trans' hB4 hB4.size hb
          have gS' := block_set (block_set gS 0 (.int .i64 X4)) 1 (.int .i64 Y4)
          replace hXW := set2_keep hXW nhXW (.int .i64 X4) (.int .i64 Y4)
          replace hYW := set2_keep hYW nhYW (.int .i64 X4) (.int .i64 Y4)
          replace gP := set2_keep gP ngP (.int .i64 X4) (.int .i64 Y4)
          replace gQ := set2_keep gQ ngQ (.int .i64 X4) (.int .i64 Y4)
          replace gT := set2_keep gT nTS (.int .i64 X4) (.int .i64 Y4)
          replace x5 := cells2i gS
          replace f5 := free_of_block gS
          replace gS : ((z4.setCell ⟨NS, 0, none⟩ (.int .i64 X4)).setCell ⟨NS, 1, none⟩ (.int .i64 Y4)).heap[NS]? = some (.cells #[.int .i64 X4, .int .i64 Y4] 69 (0, 0)) := gS'
          replace hB4 := below_sets2 hB4 hwS (.int .i64 X4) (.int .i64 Y4)
          clear gS' hb
          replace x1 := cells2i hXW
          replace x2 := cells2i hYW
          replace x3 := cells2 gP
          replace x4 := cells2 gQ
          have x5' := cells2i gS
          replace x6 := cells2 gT
          replace f6 := free_of_block gT
          go_wp2_with fail
          generalize (z4.setCell ⟨NS, 0, none⟩ (.int .i64 X4)).setCell ⟨NS, 1, none⟩ (.int .i64 Y4) = u4 at *
          clear x5 f5
          have x5 := x5'
          have f5 := free_of_block gS
          clear x5'
          refine (G4.out _).mono ?_
          rintro e q4 ⟨rfl, hb⟩
          replace hXW := blk_below hb hXW
          replace hYW := blk_below hb hYW
          replace gP := blk_below hb gP
          replace gQ := blk_below hb gQ
          replace gS := blk_below hb gS
          replace gT := blk_below hb gT
          replace hB4 := below_trans' hB4 hB4.size hb
          have gT' := block_set (block_set gT 0 (.string A4)) 1 (.string B4)
          replace hXW := set2_keep hXW rhXW (.string A4) (.string B4)
          replace hYW := set2_keep hYW rhYW (.string A4) (.string B4)
          replace gP := set2_keep gP rgP (.string A4) (.string B4)
          replace gQ := set2_keep gQ rgQ (.string A4) (.string B4)
          replace gS := set2_keep gS nST (.string A4) (.string B4)
          replace x6 := cells2 gT
          replace f6 := free_of_block gT
          replace gT : ((q4.setCell ⟨NT, 0, none⟩ (.string A4)).setCell ⟨NT, 1, none⟩ (.string B4)).heap[NT]? = some (.cells #[.string A4, .string B4] 23 (0, 0)) := gT'
          replace hB4 := below_sets2 hB4 hwT (.string A4) (.string B4)
          clear gT' hb
          replace x1 := cells2i hXW
          replace x2 := cells2i hYW
          replace x3 := cells2 gP
          replace x4 := cells2 gQ
          replace x5 := cells2i gS
          replace f5 := free_of_block gS
          have x6' := cells2 gT
          go_upto_region 21 with fail
          generalize (q4.setCell ⟨NT, 0, none⟩ (.string A4)).setCell ⟨NT, 1, none⟩ (.string B4) = V4 at *
          clear x6 f6
          have x6 := x6'
          have f6 := free_of_block gT
          clear x6'
          go_cut [130] (fun s130 wx => s130 = .bool false ∧ Below V4.heap.size V4 wx)
          case first =>
            cases o4 with
            | false =>
              go_wp2_with fail
              go_meet
              case rel => exact ⟨rfl, Below.refl _ _⟩
            | true =>
              have kc := K4.out rfl
              have KC := Lib.hid kc
              clear kc
              go_wp2_with fail
              refine (KC.out _).mono ?_
              rintro e y ⟨rfl, hb⟩
              go_wp2_with fail
              go_meet
              case rel => exact ⟨rfl, hb⟩
          case rest =>
            obtain ⟨rfl, hb⟩ := hcut
            replace hXW := blk_below hb hXW
            replace hYW := blk_below hb hYW
            replace gP := blk_below hb gP
            replace gQ := blk_below hb gQ
            replace gS := blk_below hb gS
            replace gT := blk_below hb gT
            replace hB4 := below_trans' hB4 hB4.size hb
            replace x1 := cells2i hXW
            replace x2 := cells2i hYW
            replace x3 := cells2 gP
            replace x4 := cells2 gQ
            replace x5 := cells2i gS
            replace f5 := free_of_block gS
            replace x6 := cells2 gT
            replace f6 := free_of_block gT
            clear hb
            clear K4
            obtain ⟨R5, hR5⟩ : ∃ R, sqrtI a b = R := ⟨_, rfl⟩
            have hq := fun w => sqrt12 a b w
            rw [hR5] at hq
            cases R5 with
            | none =>
              have ha : decide (a < 0) = true := decide_eq_true (sqrt_none hR5 hi1)
              have ha' : a < 0 := sqrt_none hR5 hi1
              have HQ : Hid (∀ w, Calls Tryd.prog 58 #[.agg #[.int .i64 a, .int .i64 b]] w fun e w' => e = .returned (.tuple #[.agg #[.int .i64 0, .int .i64 0], .bool false]) ∧ Below w.heap.size w w') := Lib.hid hq
              clear hq hR5
              go_wp2_with fail
              refine (HQ.out _).mono ?_
              rintro e z5 ⟨rfl, hb⟩
              replace hXW := blk_below hb hXW
              replace hYW := blk_below hb hYW
              replace gP := blk_below hb gP
              replace gQ := blk_below hb gQ
              replace gS := blk_below hb gS
              replace gT := blk_below hb gT
              replace hB4 := below_trans' hB4 hB4.size hb
              replace x5 := cells2i gS
              replace f5 := free_of_block gS
              replace hXW := set2_keep hXW nhXW (.int .i64 0) (.int .i64 0)
              replace hYW := set2_keep hYW nhYW (.int .i64 0) (.int .i64 0)
              replace gP := set2_keep gP ngP (.int .i64 0) (.int .i64 0)
              replace gQ := set2_keep gQ ngQ (.int .i64 0) (.int .i64 0)
              replace hB4 := below_sets2 hB4 hwS (.int .i64 0) (.int .i64 0)
              clear hb
              replace x1 := cells2i hXW
              replace x2 := cells2i hYW
              replace x3 := cells2 gP
              replace x4 := cells2 gQ
              go_wp2_with fail
              go_ret
              exact ⟨rfl, hB4⟩
            | some r =>
              obtain ⟨lo, hi⟩ := r
              have hen := sqrt_enc hR5 hk
              have hbd := sqrt_in hR5
              have HQ : Hid (∀ w, Calls Tryd.prog 58 #[.agg #[.int .i64 a, .int .i64 b]] w fun e w' => e = .returned (.tuple #[.agg #[.int .i64 lo, .int .i64 hi], .bool true]) ∧ Below w.heap.size w w') := Lib.hid hq
              clear hq hR5
              go_wp2_with fail
              refine (HQ.out _).mono ?_
              rintro e z5 ⟨rfl, hb⟩
              replace hXW := blk_below hb hXW
              replace hYW := blk_below hb hYW
              replace gP := blk_below hb gP
              replace gQ := blk_below hb gQ
              replace gS := blk_below hb gS
              replace gT := blk_below hb gT
              replace hB4 := below_trans' hB4 hB4.size hb
              have gS' := block_set (block_set gS 0 (.int .i64 lo)) 1 (.int .i64 hi)
              replace x5 := cells2i gS
              replace f5 := free_of_block gS
              replace hXW := set2_keep hXW nhXW (.int .i64 lo) (.int .i64 hi)
              replace hYW := set2_keep hYW nhYW (.int .i64 lo) (.int .i64 hi)
              replace gP := set2_keep gP ngP (.int .i64 lo) (.int .i64 hi)
              replace gQ := set2_keep gQ ngQ (.int .i64 lo) (.int .i64 hi)
              replace gS : ((z5.setCell ⟨NS, 0, none⟩ (.int .i64 lo)).setCell ⟨NS, 1, none⟩ (.int .i64 hi)).heap[NS]? = some (.cells #[.int .i64 lo, .int .i64 hi] 69 (0, 0)) := gS'
              replace hB4 := below_sets2 hB4 hwS (.int .i64 lo) (.int .i64 hi)
              clear gS' hb
              replace x3 := cells2 gP
              have x5' := cells2i gS
              clear x1 x2 x4 x6 f6 hXW hYW gQ gT
              go_wp2_with fail
              generalize (z5.setCell ⟨NS, 0, none⟩ (.int .i64 lo)).setCell ⟨NS, 1, none⟩ (.int .i64 hi) = u5 at *
              clear x5 f5
              have x5 := x5'
              clear x5'
              refine (of22q lo _ ⟨by omega, by omega⟩).mono ?_
              rintro e v6 ⟨A6, B6, rfl, T6, hb⟩
              replace gP := blk_below hb gP
              replace gS := blk_below hb gS
              have ne1 := Nat.ne_of_lt (lt_of_blk gP)
              have hba : Below v6.heap.size v6 (v6.alloc (.cells #[.string A6, .string B6] 23)) := (Below.refl _ _).alloc (Nat.le_refl _) _
              have g6 := heap_alloc_new v6 (.cells #[.string A6, .string B6] 23)
              replace hB4 := below_trans' hB4 hB4.size hb
              have hw6 : w.heap.size ≤ v6.heap.size := hB4.size
              replace gP := blk_below hba gP
              replace gS := blk_below hba gS
              replace hB4 := below_trans' hB4 hB4.size hba
              replace x3 := cells2 gP
              replace x5 := cells2i gS
              clear hb hba
              go_wp2_with fail
              refine (of22q hi _ ⟨by omega, by omega⟩).mono ?_
              rintro e v7 ⟨A7, B7, rfl, T7, hb⟩
              replace gP := blk_below hb gP
              replace gS := blk_below hb gS
              replace g6 := blk_below hb g6
              have ne2 := Nat.ne_of_lt (lt_of_blk gP)
              have ne3 := Nat.ne_of_lt (lt_of_blk g6)
              have hba : Below v7.heap.size v7 (v7.alloc (.cells #[.string A7, .string B7] 23)) := (Below.refl _ _).alloc (Nat.le_refl _) _
              have g7 := heap_alloc_new v7 (.cells #[.string A7, .string B7] 23)
              replace hB4 := below_trans' hB4 hB4.size hb
              have hw7 : w.heap.size ≤ v7.heap.size := hB4.size
              replace gP := blk_below hba gP
              replace gS := blk_below hba gS
              replace g6 := blk_below hba g6
              replace hB4 := below_trans' hB4 hB4.size hba
              replace x3 := cells2 gP
              replace x5 := cells2i gS
              have x6 := cells2 g6
              have f6 := free_of_block g6
              clear hb hba x5
              go_wp2_with fail
              generalize v7.alloc (.cells #[.string A7, .string B7] 23) = V7 at *
              generalize v6.heap.size = N6 at *
              generalize v7.heap.size = N7 at *
              have hl48 : lo.natAbs ≤ 2 ^ 48 ∧ hi.natAbs ≤ 2 ^ 48 := by omega
              have fl : fitsR (qI lo * qI lo) := ((q_E2 (a := lo) ⟨by omega, by omega⟩).mul (q_E2 (a := lo) ⟨by omega, by omega⟩)).fits (by omega) (by omega)
              have fh : fitsR (qI hi * qI hi) := ((q_E2 (a := hi) ⟨by omega, by omega⟩).mul (q_E2 (a := hi) ⟨by omega, by omega⟩)).fits (by omega) (by omega)
              clear hl48
              have FH := Lib.hid fh
              clear fh
              refine (mulXr _ T6 T6 fl).mono ?_
              rintro e v8 ⟨A8, B8, rfl, T8, hb⟩
              replace gP := blk_below hb gP
              replace g6 := blk_below hb g6
              replace g7 := blk_below hb g7
              replace hB4 := below_trans' hB4 hB4.size hb
              have g6' := block_set (block_set g6 0 (.string A8)) 1 (.string B8)
              replace x6 := cells2 g6
              replace f6 := free_of_block g6
              replace gP := set2_keep gP ne1 (.string A8) (.string B8)
              replace g7 := set2_keep g7 (Ne.symm ne3) (.string A8) (.string B8)
              replace g6 : ((v8.setCell ⟨N6, 0, none⟩ (.string A8)).setCell ⟨N6, 1, none⟩ (.string B8)).heap[N6]? = some (.cells #[.string A8, .string B8] 23 (0, 0)) := g6'
              replace hB4 := below_sets2 hB4 hw6 (.string A8) (.string B8)
              clear hb g6'
              replace x3 := cells2 gP
              have x7 := cells2 g7
              have f7 := free_of_block g7
              go_wp2_with fail
              generalize (v8.setCell ⟨N6, 0, none⟩ (.string A8)).setCell ⟨N6, 1, none⟩ (.string B8) = V8 at *
              refine (mulXr _ T7 T7 FH.out).mono ?_
              rintro e v9 ⟨A9, B9, rfl, T9, hb⟩
              replace gP := blk_below hb gP
              replace g6 := blk_below hb g6
              replace g7 := blk_below hb g7
              replace hB4 := below_trans' hB4 hB4.size hb
              have g7' := block_set (block_set g7 0 (.string A9)) 1 (.string B9)
              replace x7 := cells2 g7
              replace f7 := free_of_block g7
              replace gP := set2_keep gP ne2 (.string A9) (.string B9)
              replace g6 := set2_keep g6 ne3 (.string A9) (.string B9)
              replace g7 : ((v9.setCell ⟨N7, 0, none⟩ (.string A9)).setCell ⟨N7, 1, none⟩ (.string B9)).heap[N7]? = some (.cells #[.string A9, .string B9] 23 (0, 0)) := g7'
              replace hB4 := below_sets2 hB4 hw7 (.string A9) (.string B9)
              clear hb g7'
              replace x3 := cells2 gP
              replace x6 := cells2 g6
              go_wp2_with fail
              generalize (v9.setCell ⟨N7, 0, none⟩ (.string A9)).setCell ⟨N7, 1, none⟩ (.string B9) = V9 at *
              refine (cmpXr _ T8 T1 hen.1).mono ?_
              rintro e v10 ⟨n1, hn1, rfl, hb⟩
              have hn1' : decide (n1 ≤ 0) = true := decide_eq_true hn1
              replace gP := blk_below hb gP
              replace g7 := blk_below hb g7
              replace hB4 := below_trans' hB4 hB4.size hb
              replace x3 := cells2 gP
              replace x7 := cells2 g7
              clear hb x6 f6 f7 g6
              go_wp2_with fail
              refine (cmpXr _ T1 T9 hen.2).mono ?_
              rintro e v11 ⟨n2, hn2, rfl, hb⟩
              have hn2' : decide (n2 ≤ 0) = true := decide_eq_true hn2
              replace hB4 := below_trans' hB4 hB4.size hb
              clear hb
              go_wp2_with fail
              go_ret
              exact ⟨rfl, hB4⟩
end Go.Proofs.YtpligjkbnlfhgaaDoor
