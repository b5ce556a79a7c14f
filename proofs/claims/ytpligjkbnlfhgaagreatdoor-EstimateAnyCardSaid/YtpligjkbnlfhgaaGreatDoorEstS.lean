/- The mean adjusted by a covariate. No statement is proved here. -/
import Derived.Test.YtpligjkbnlfhgaaGreatDoorEstR
namespace Go.Proofs.YtpligjkbnlfhgaaGreatDoor
open Go.RowKit

theorem num_zero {A B : ByteArray} (h : Tx A B 0) : A.toList = [48] := by
  have e := h.2
  have e0 : txt 0 = ([48], [49]) := by
    unfold txt
    have h1 : (0 : Rat).num.natAbs = 0 := rfl
    have h2 : (0 : Rat).den = 1 := rfl
    rw [h1, h2]
    have e3 : decT 0 = [48] := by unfold decT; rfl
    have e2 : decT 1 = [49] := by unfold decT; rfl
    rw [e3, e2]; rfl
  rw [e0] at e
  simp only [Prod.mk.injEq] at e
  rw [ByteArray.toList_eq]; exact e.1.symm
theorem num_head {A B : ByteArray} {x : Rat} (h : Tx A B x) (hx : x ≠ 0) : A.toList ≠ [48] ∧ negL A.toList = decide (x.num < 0) := by
  have e := h.2
  unfold txt at e
  simp only [Prod.mk.injEq] at e
  have hp := (decT_spec x.num.natAbs).1
  have hn := (negL_sign (b := decide (x.num < 0)) hp)
  rw [ByteArray.toList_eq, ← e.1]
  refine ⟨fun h => ?_, hn.1⟩
  have h1 : absL (signT (decide (x.num < 0)) (decT x.num.natAbs)) = decT x.num.natAbs := hn.2
  have h2 := hn.1
  rw [h] at h1 h2
  have h3 : absL [48] = [48] := rfl
  rw [h3] at h1
  have := hp.zero.2 h1.symm
  rw [(decT_spec x.num.natAbs).2.1] at this
  exact hx (Rat.num_eq_zero.1 (Int.natAbs_eq_zero.1 this))
theorem ten50 {k n : Nat} (hk : k ≤ 50) (h : n < 10 ^ k) : n ≤ 2 ^ 167 := by
  have h1 : 10 ^ k ≤ 10 ^ 50 := Nat.pow_le_pow_right (by decide) hk
  have h2 : (10 : Nat) ^ 50 ≤ 2 ^ 167 := by decide
  omega
/-- A center of few digits. -/
theorem cen_E2 {A B : ByteArray} {x : Rat} (h : Tx A B x) (hA : A.size ≤ 50) (hB : B.size ≤ 50) : E2 167 167 x := by
  have e := h.2
  unfold txt at e
  simp only [Prod.mk.injEq] at e
  have lA : (decT x.num.natAbs).length ≤ 50 := by
    have h1 : (signT (decide (x.num < 0)) (decT x.num.natAbs)).length = A.size := by rw [e.1]; exact Array.length_toList
    unfold signT at h1
    split at h1
    · rw [List.length_cons] at h1; omega
    · omega
  have lB : (decT x.den).length ≤ 50 := by
    have h1 : (decT x.den).length = B.size := by rw [e.2]; exact Array.length_toList
    omega
  exact ⟨ten50 (Nat.le_refl _) ((decT_len _ (by decide)).1 lA), ten50 (Nat.le_refl _) ((decT_len _ (by decide)).1 lB)⟩

/-- What stands while the adjustment is computed. -/
structure AInv (w wr : World) (c b o t : Nat) (C1 C2 B1 B2 O1 O2 T1 T2 : ByteArray) : Prop where
  below : Below w.heap.size w wr
  box : wr.heap[w.heap.size]? = some (.cells #[.string C1, .string C2] 26 (0, 0))
  res : wr.heap[w.heap.size + 1]? = some (.cells #[.int .i64 0, .string ⟨#[]⟩, .string ⟨#[]⟩, .string ⟨#[]⟩, .string ⟨#[]⟩] 28 (0, 0))
  cal : wr.heap[c]? = some (.cells #[.bool false] 64 (0, 0))
  b : wr.heap[b]? = some (.cells #[.string B1, .string B2] 26 (0, 0))
  o : wr.heap[o]? = some (.cells #[.string O1, .string O2] 26 (0, 0))
  t : wr.heap[t]? = some (.cells #[.string T1, .string T2] 26 (0, 0))
theorem AInv.go {w wr wx : World} {c b o t : Nat} {C1 C2 B1 B2 O1 O2 T1 T2 : ByteArray} (h : AInv w wr c b o t C1 C2 B1 B2 O1 O2 T1 T2) (hb : Below wr.heap.size wr wx) : AInv w wx c b o t C1 C2 B1 B2 O1 O2 T1 T2 :=
  ⟨below_trans' h.below h.below.size hb, blk_below hb h.box, blk_below hb h.res, blk_below hb h.cal, blk_below hb h.b, blk_below hb h.o, blk_below hb h.t⟩
theorem AInv.set {w wr : World} {c b o t : Nat} {C1 C2 B1 B2 O1 O2 T1 T2 : ByteArray} (h : AInv w wr c b o t C1 C2 B1 B2 O1 O2 T1 T2) (h0 : w.heap.size + 1 < t) (h1 : c ≠ t) (h2 : b ≠ t) (h3 : o ≠ t) (S1 S2 : ByteArray) :
    AInv w ((wr.setCell ⟨t, 0, none⟩ (.string S1)).setCell ⟨t, 1, none⟩ (.string S2)) c b o t C1 C2 B1 B2 O1 O2 S1 S2 :=
  ⟨below_sets2 h.below (by omega) _ _, keep2 h.box (by omega) _ _, keep2 h.res (by omega) _ _, keep2 h.cal h1 _ _, keep2 h.b h2 _ _, keep2 h.o h3 _ _, block_set (block_set h.t 0 _) 1 _⟩
theorem AInv.other {w wr wx : World} {c b o t d : Nat} {C1 C2 B1 B2 O1 O2 T1 T2 : ByteArray} (h : AInv w wx c b o t C1 C2 B1 B2 O1 O2 T1 T2) (h' : AInv w wr c b o t C1 C2 B1 B2 O1 O2 T1 T2) (hd : wr.heap.size ≤ d) (S1 S2 : Value) :
    AInv w ((wx.setCell ⟨d, 0, none⟩ S1).setCell ⟨d, 1, none⟩ S2) c b o t C1 C2 B1 B2 O1 O2 T1 T2 := by
  have e0 := lt_of_blk h'.box
  have e1 := lt_of_blk h'.res
  have e2 := lt_of_blk h'.cal
  have e3 := lt_of_blk h'.b
  have e4 := lt_of_blk h'.o
  have e5 := lt_of_blk h'.t
  exact ⟨below_sets2 h.below (by have := h'.below.size; omega) _ _, keep2 h.box (by omega) _ _, keep2 h.res (by omega) _ _, keep2 h.cal (by omega) _ _, keep2 h.b (by omega) _ _, keep2 h.o (by omega) _ _, keep2 h.t (by omega) _ _⟩

set_option maxRecDepth 100000 in
set_option maxHeartbeats 16000000 in
theorem adjusted46 (A B : Option Addr) (n ca cb : Nat) (f g : Nat → Int) (cen : Rat) (C1 C2 M1 M2 V1 V2 : ByteArray) (w : World) (hl : IntsV w A n ca f) (hm : IntsV w B n cb g) (hf : Fit f n) (hg : Fit g n) (h2 : 2 ≤ n)
    (TC : Tx C1 C2 cen) (hc1 : C1.size ≤ 50) (hc2 : C2.size ≤ 50) (TM : Tx M1 M2 (adjM f g n cen)) (TV : Tx V1 V2 (adjV f g n)) :
    Calls Tryz.prog 21 #[.slice A n ca, .slice B n cb, .agg #[.string C1, .string C2]] w fun e w' => e = .returned (.tuple #[estV n M1 M2 V1 V2, .bool true]) ∧ Below w.heap.size w w' := by
  obtain ⟨hbW, g0, g1, g2⟩ := allocs3 w #[.string C1, .string C2] #[.int .i64 0, .string ⟨#[]⟩, .string ⟨#[]⟩, .string ⟨#[]⟩, .string ⟨#[]⟩] #[.slice A n ca, .slice B n cb] 26 28 31
  have hl1 := hl.below hbW
  have hm1 := hm.below hbW
  have hC := fits85 2 2 2 _ _ _ _ _ _ (by decide) (by decide) (by decide) (rdl_two g2 hl1.rd hm1.rd hl1.le hl1.max hm1.le hm1.max)
  rw [fits_two.2 ⟨rfl, h2, hf, hg⟩] at hC
  have HC := Lib.hid hC
  have hv := fun w => valid23 C1 C2 w TC.lens.1 TC.lens.2
  rw [← (rd_form (N := C1.data.toList) (D := C2.data.toList)).1, TC.rd] at hv
  have HV : Hid (∀ w, Calls Tryz.prog 66 #[.agg #[.string C1, .string C2]] w fun e w' => e = .returned (.bool true) ∧ Below w.heap.size w w') := Lib.hid hv
  have hn5 := hf.1
  have hs := sum_fit hf
  have ht := sum_fit hg
  have HF := Lib.hid hf
  have HG := Lib.hid hg
  have hmx : decide ((50 : Int) < max (C1.size : Int) (C2.size : Int)) = false := decide_eq_false (by omega)
  have k0 := cells2 g0
  obtain ⟨B1, B2, -, TB⟩ := txV_tx ((cov_E2 hf hg h2).fits (by decide) (by decide))
  obtain ⟨O1, O2, -, TO⟩ := txV_tx ((cov_E2 hg hg h2).fits (by decide) (by decide))
  obtain ⟨L1, L2, -, TL⟩ := txV_tx ((cov_E2 hf hf h2).fits (by decide) (by decide))
  obtain ⟨Z1, Z2, -, TZ⟩ := txV_tx ((num_E2 (x := 0) (a := 0) (by decide)).fits (by decide) (by decide))
  clear hC g2 hf hg hv hl1 hm1
  go_enter Tryz.func21, Tryz.ntmps21
  go_wp2_with fail
  refine HC.out.mono ?_
  rintro e w' ⟨rfl, rfl⟩
  go_wp2_with fail
  generalize ((w.alloc (.cells #[.string C1, .string C2] 26)).alloc (.cells #[.int .i64 0, .string ⟨#[]⟩, .string ⟨#[]⟩, .string ⟨#[]⟩, .string ⟨#[]⟩] 28)).alloc (.cells #[.slice A n ca, .slice B n cb] 31) = W at *
  refine (HV.out W).mono ?_
  rintro e w1 ⟨rfl, b1⟩
  have k1 := cells2 (blk_below b1 g0)
  clear k0
  have b2 : Below w1.heap.size w1 (w1.alloc (.cells #[.bool false] 64)) := (Below.refl _ _).alloc (Nat.le_refl _) _
  have gc := heap_alloc_new w1 (.cells #[.bool false] 64)
  have hlt1 : w.heap.size + 1 < w1.heap.size := lt_of_blk (blk_below b1 g1)
  replace b2 := below_trans' b1 b1.size b2
  replace g0 := blk_below b2 g0
  replace g1 := blk_below b2 g1
  replace hbW := below_trans' hbW hbW.size b2
  have hl2 := hl.below hbW
  have hm2 := hm.below hbW
  clear b1
  go_wp2_with fail
  generalize w1.alloc (.cells #[.bool false] 64) = w2 at *
  have hlt2 : w1.heap.size < w2.heap.size := lt_of_blk gc
  generalize w1.heap.size = NC at *
  refine (cov90 _ A B n ca cb f g B1 B2 w2 HF.out HG.out h2 TB hl2.rd hm2.rd).mono ?_
  rintro e w3 ⟨rfl, b3⟩
  go_wp2_with fail
  refine (cov90 _ B B n cb cb g g O1 O2 w3 HG.out HG.out h2 TO (hm2.below b3).rd (hm2.below b3).rd).mono ?_
  rintro e w4 ⟨rfl, b4⟩
  replace b4 := below_trans' b3 b3.size b4
  obtain ⟨b5, gb, go⟩ := allocs2' w4 #[.string B1, .string B2] #[.string O1, .string O2] 26 26
  have hlt4 : w2.heap.size ≤ w4.heap.size := b4.size
  replace b5 := below_trans' b4 b4.size b5
  clear b3 b4 k1
  go_wp2_with fail
  generalize (w4.alloc (.cells #[.string B1, .string B2] 26)).alloc (.cells #[.string O1, .string O2] 26) = w5 at *
  have hlt5 : w4.heap.size + 1 < w5.heap.size := lt_of_blk go
  generalize w4.heap.size = NB at *
  refine (of_V _ TZ rfl (by decide) (by decide) (by decide) (by decide) (by decide) _).mono ?_
  rintro e w6 ⟨rfl, b6⟩
  have gt := heap_alloc_new w6 (.cells #[.string Z1, .string Z2] 26)
  have b7 : Below w6.heap.size w6 (w6.alloc (.cells #[.string Z1, .string Z2] 26)) := (Below.refl _ _).alloc (Nat.le_refl _) _
  have hlt6 : w5.heap.size ≤ w6.heap.size := b6.size
  replace b7 := below_trans' b6 b6.size b7
  have b8 := below_trans' b5 b5.size b7
  have hI : AInv w (w6.alloc (.cells #[.string Z1, .string Z2] 26)) NC NB (NB + 1) w6.heap.size C1 C2 B1 B2 O1 O2 Z1 Z2 :=
    ⟨below_trans' hbW hbW.size b8, blk_below b8 g0, blk_below b8 g1, blk_below b8 gc, blk_below b7 gb, blk_below b7 go, gt⟩
  clear gt b5 b6 b7 b8 gb go g0 g1 gc hl2 hm2 hbW b2
  have x3 := cells2 hI.o
  have x4 := cells2 hI.b
  have htl : O1.toList = O1.data.toList := ByteArray.toList_eq _
  have HTL := Lib.hid htl
  clear htl
  have n1 : w.heap.size + 1 < w6.heap.size := by omega
  have n2 : NC ≠ w6.heap.size := by omega
  have n3 : NB ≠ w6.heap.size := by omega
  have n4 : NB + 1 ≠ w6.heap.size := by omega
  go_upto_if 47 with fail
  generalize w6.alloc (.cells #[.string Z1, .string Z2] 26) = w7 at *
  generalize w6.heap.size = NT at *
  clear hlt1 hlt2 hlt4 hlt5 hlt6
  have HN2 := Lib.hid n2
  have HN3 := Lib.hid n3
  have HN4 := Lib.hid n4
  clear n2 n3 n4
  generalize hNO : NB + 1 = NO at *
  clear hNO
  generalize hbz : (O1.toList == [48]) = bz
  have HBZ := Lib.hid hbz
  clear hbz
  go_cut [12] (fun s12 wx => s12 = .pointer (some ⟨NT, 0, none⟩) ∧ ∃ T1 T2, Tx T1 T2 (tQ f g n) ∧ AInv w wx NC NB NO NT C1 C2 B1 B2 O1 O2 T1 T2)
  case first =>
    by_cases hz : covQ g g n = 0
    · have e1 : bz = true := by
        rw [hz] at TO
        rw [← HBZ.out, num_zero TO]; rfl
      subst e1
      have hT : Tx Z1 Z2 (tQ f g n) := by unfold tQ; rw [if_pos hz]; exact TZ
      go_wp2_with fail
      go_meet
      case rel => exact ⟨rfl, Z1, Z2, hT, hI⟩
    · have e1 : bz = false := by
        rw [← HBZ.out, beq_eq_false_iff_ne]; exact (num_head TO hz).1
      subst e1
      have ht2 : tQ f g n = covQ f g n / covQ g g n := by unfold tQ; rw [if_neg hz]
      obtain ⟨T1, T2, TT, CT⟩ := div_C TB TO hz (by rw [← ht2]; exact (t_E2 HF.out HG.out h2).fits (by decide) (by decide))
      rw [← ht2] at TT
      have KT := Lib.hid CT
      clear CT ht2
      go_wp2_with fail
      refine (KT.out _ _).mono ?_
      rintro e w8 ⟨rfl, b8⟩
      have hI2 := hI.go b8
      have y1 := cells2 hI2.t
      have y2 := free_of_block hI2.t
      have hI3 := hI2.set n1 HN2.out HN3.out HN4.out T1 T2
      clear hI2 b8
      go_wp2_with fail
      go_meet
      case rel => exact ⟨rfl, T1, T2, TT, hI3⟩
  case rest =>
    obtain ⟨rfl, T1, T2, TT, hJ⟩ := hcut
    clear hI x3 x4 TZ HTL
    have hTa := adjM_E2 HF.out HG.out h2 (cen_E2 TC hc1 hc2)
    have hTb := adjV_E2 HF.out HG.out h2
    have hMf := mean_E2 HF.out (by omega)
    have hMg := mean_E2 HG.out (by omega)
    obtain ⟨P1, P2, TP, CP⟩ := of_C (a := sumF f n) (b := n) (by omega) (by omega) (by omega) (by omega) (by omega) (hMf.fits (by decide) (by decide))
    obtain ⟨Q1, Q2, TQ, CQ⟩ := of_C (a := sumF g n) (b := n) (by omega) (by omega) (by omega) (by omega) (by omega) (hMg.fits (by decide) (by decide))
    obtain ⟨U1, U2, TU, CU⟩ := sub_C TQ TC (hTa.1.fits (by decide) (by decide))
    obtain ⟨X1, X2, TX, CX⟩ := mul_C TT TU (hTa.2.1.fits (by decide) (by decide))
    obtain ⟨M1', M2', TM', CM⟩ := sub_C TP TX TM.1
    obtain ⟨rfl, rfl⟩ := TM.inj TM'
    have KP := Lib.hid CP
    have KQ := Lib.hid CQ
    have KU := Lib.hid CU
    have KX := Lib.hid CX
    have KM := Lib.hid CM
    clear CP CQ CU CX CM TP TQ TU TX TM' hTa hMf hMg
    go_upto_region 9 with fail
    have hbd : Below wc.heap.size wc wc.drew := (Below.refl _ _).drew
    have hz : ∀ x : Beh LeW wc.drew, AInv w x.w NC NB NO NT C1 C2 B1 B2 O1 O2 T1 T2 := fun x => (hJ.go hbd).go x.h
    have z1 := fun x : Beh LeW wc.drew => (cells2 (hz x).t).1
    have z2 := fun x : Beh LeW wc.drew => (cells2 (hz x).t).2
    have z3 := fun x : Beh LeW wc.drew => (cells2 (hz x).box).1
    have z4 := fun x : Beh LeW wc.drew => (cells2 (hz x).box).2
    have t1 : ∀ x : Beh LeW wc.drew, Calls Tryz.prog 56 #[.slice A n ca] x.w fun e w' => e = .returned (.int .i64 (sumF f n)) ∧ LeW x.w w' := fun x => (total88 A n ca f x.w (hl.below (hz x).below).rd HF.out).mono (by rintro e w' ⟨rfl, rfl⟩; exact ⟨rfl, LeW.refl _⟩)
    have t2 : ∀ x : Beh LeW wc.drew, Calls Tryz.prog 56 #[.slice B n cb] x.w fun e w' => e = .returned (.int .i64 (sumF g n)) ∧ LeW x.w w' := fun x => (total88 B n cb g x.w (hm.below (hz x).below).rd HG.out).mono (by rintro e w' ⟨rfl, rfl⟩; exact ⟨rfl, LeW.refl _⟩)
    have HZ := Lib.hid hz
    have HT1 := Lib.hid t1
    have HT2 := Lib.hid t2
    clear hz t1 t2
    refine wp_region_late (R := LeW) 14 88 [(1, [], none), (3, [], none), (6, [], none), (8, [], none), (10, [], none), (11, [], none), (12, [], none), (13, [], some (fresh wc.heap.size #[.string ⟨#[]⟩, .string ⟨#[]⟩] 26))] (by kernel_rfl) (by kernel_rfl) (by kernel_rfl) rfl LeW.refl (fun _ _ _ => LeW.trans) ?_
    simp only [Late, List.take_succ_cons, List.drop_succ_cons, List.take_zero, List.drop_zero, Nat.reduceSub, Nat.reduceAdd, Nat.sub_zero]
    repeat (go_big_quiet_step (fail))
    refine wpQuiet_nil ?_
    refine late_call Tryz.func56 (by kernel_rfl) (by kernel_rfl) (fun x => HT1.out x) rfl (by simp only [Act.put, List.setIfInBounds_toArray, List.set_cons_succ, List.set_cons_zero]; rfl) ?_
    repeat (go_big_quiet_step (fail))
    refine wpQuiet_nil ?_
    refine late_call Tryz.func60 (by kernel_rfl) (by kernel_rfl) (fun x => KP.out _ x.w) rfl (by simp only [Act.put, List.setIfInBounds_toArray, List.set_cons_succ, List.set_cons_zero]; rfl) ?_
    repeat (go_big_quiet_step (fail))
    refine wpQuiet_nil ?_
    refine late_call Tryz.func56 (by kernel_rfl) (by kernel_rfl) (fun x => HT2.out x) rfl (by simp only [Act.put, List.setIfInBounds_toArray, List.set_cons_succ, List.set_cons_zero]; rfl) ?_
    repeat (go_big_quiet_step (fail))
    refine wpQuiet_nil ?_
    refine late_call Tryz.func60 (by kernel_rfl) (by kernel_rfl) (fun x => KQ.out _ x.w) rfl (by simp only [Act.put, List.setIfInBounds_toArray, List.set_cons_succ, List.set_cons_zero]; rfl) ?_
    repeat (go_big_quiet_step (fail))
    refine wpQuiet_nil ?_
    refine late_call Tryz.func33 (by kernel_rfl) (by kernel_rfl) (fun x => KU.out _ x.w) rfl (by simp only [Act.put, List.setIfInBounds_toArray, List.set_cons_succ, List.set_cons_zero]; rfl) ?_
    refine wpQuiet_nil ?_
    refine late_call Tryz.func61 (by kernel_rfl) (by kernel_rfl) (fun x => KX.out _ x.w) rfl (by simp only [Act.put, List.setIfInBounds_toArray, List.set_cons_succ, List.set_cons_zero]; rfl) ?_
    refine wpQuiet_nil ?_
    refine late_call Tryz.func33 (by kernel_rfl) (by kernel_rfl) (fun x => KM.out _ x.w) rfl (by simp only [Act.put, List.setIfInBounds_toArray, List.set_cons_succ, List.set_cons_zero]; rfl) ?_
    refine wpQuiet_nil ?_
    refine late_alloc (fun _ _ => by kernel_rfl) (fun x => Nat.le_trans hbd.size x.h.size) (by simp only [Act.put, List.setIfInBounds_toArray, List.set_cons_succ, List.set_cons_zero]; rfl) ?_
    refine wpQuiet_nil ?_
    intro x
    simp only [List.nil_append, allGens, Option.getD_some]
    rintro v ⟨d1, rfl, hd1, gd1⟩
    simp only [Act.put, List.setIfInBounds_toArray, List.set_cons_succ, List.set_cons_zero]
    have hI2 := HZ.out x
    clear HZ
    have hxh := x.h
    clear z1 z2 z3 z4 HT1 HT2
    generalize x.w = wy at *
    have y1 := cells2 gd1
    have y2 := free_of_block gd1
    have hI3 := hI2.other hJ hd1 (.string M1) (.string M2)
    have gd' := block_set (block_set gd1 0 (.string M1)) 1 (.string M2)
    have gM : ((wy.setCell ⟨d1, 0, none⟩ (.string M1)).setCell ⟨d1, 1, none⟩ (.string M2)).heap[d1]? = some (.cells #[.string M1, .string M2] 26 (0, 0)) := gd'
    clear gd' gd1 hI2 hd1 hJ hbd hxh
    obtain ⟨Y1, Y2, TY, CY⟩ := of_C (a := 2) (b := 1) (by decide) (by decide) (by decide) (by decide) (by decide) ((num_E2 (x := 2) (a := 1) (by decide)).fits (by decide) (by decide))
    obtain ⟨P1, P2, TP, CP⟩ := mul_C TT TB (hTb.1.fits (by decide) (by decide))
    obtain ⟨Q1, Q2, TQ, CQ⟩ := mul_C TY TP (hTb.2.1.fits (by decide) (by decide))
    obtain ⟨U1, U2, TU, CU⟩ := sub_C TL TQ (hTb.2.2.1.fits (by decide) (by decide))
    obtain ⟨X1, X2, TX, CX⟩ := mul_C TT TT (hTb.2.2.2.1.fits (by decide) (by decide))
    obtain ⟨R1, R2, TR, CR⟩ := mul_C TX TO (hTb.2.2.2.2.1.fits (by decide) (by decide))
    obtain ⟨S1, S2, TS, CS⟩ := add_C TU TR (hTb.2.2.2.2.2.1.fits (by decide) (by decide))
    have KY := Lib.hid CY
    have KP := Lib.hid CP
    have KQ := Lib.hid CQ
    have KU := Lib.hid CU
    have KX := Lib.hid CX
    have KR := Lib.hid CR
    have KS := Lib.hid CS
    clear CY CP CQ CU CX CR CS TY TP TQ TU TX TR KM
    go_upto_region 10 with fail
    generalize (wy.setCell ⟨d1, 0, none⟩ (.string M1)).setCell ⟨d1, 1, none⟩ (.string M2) = wd at *
    clear y1 y2
    have hbd : Below wd.heap.size wd wd.drew := (Below.refl _ _).drew
    have hz : ∀ x : Beh LeW wd.drew, AInv w x.w NC NB NO NT C1 C2 B1 B2 O1 O2 T1 T2 := fun x => (hI3.go hbd).go x.h
    have z1 := fun x : Beh LeW wd.drew => (cells2 (hz x).t).1
    have z2 := fun x : Beh LeW wd.drew => (cells2 (hz x).t).2
    have z3 := fun x : Beh LeW wd.drew => (cells2 (hz x).b).1
    have z4 := fun x : Beh LeW wd.drew => (cells2 (hz x).b).2
    have z5 := fun x : Beh LeW wd.drew => (cells2 (hz x).o).1
    have z6 := fun x : Beh LeW wd.drew => (cells2 (hz x).o).2
    have t1 := fun x : Beh LeW wd.drew => cov90 (some ⟨NC, 0, none⟩) A A n ca ca f f L1 L2 x.w HF.out HF.out h2 TL (hl.below (hz x).below).rd (hl.below (hz x).below).rd
    have HZ := Lib.hid hz
    have HT1 := Lib.hid t1
    clear hz t1
    refine wp_region_late (R := LeW) 16 88 [(2, [], none), (3, [], none), (6, [], none), (7, [], none), (8, [], none), (11, [], none), (13, [], none), (14, [], none), (15, [], some (fresh wd.heap.size #[.string ⟨#[]⟩, .string ⟨#[]⟩] 26))] (by kernel_rfl) (by kernel_rfl) (by kernel_rfl) rfl LeW.refl (fun _ _ _ => LeW.trans) ?_
    simp only [Late, List.take_succ_cons, List.drop_succ_cons, List.take_zero, List.drop_zero, Nat.reduceSub, Nat.reduceAdd, Nat.sub_zero]
    repeat (go_big_quiet_step (fail))
    refine wpQuiet_nil ?_
    refine late_call Tryz.func59 (by kernel_rfl) (by kernel_rfl) (fun x => HT1.out x) rfl (by simp only [Act.put, List.setIfInBounds_toArray, List.set_cons_succ, List.set_cons_zero]; rfl) ?_
    refine wpQuiet_nil ?_
    refine late_call Tryz.func60 (by kernel_rfl) (by kernel_rfl) (fun x => KY.out _ x.w) rfl (by simp only [Act.put, List.setIfInBounds_toArray, List.set_cons_succ, List.set_cons_zero]; rfl) ?_
    repeat (go_big_quiet_step (fail))
    refine wpQuiet_nil ?_
    refine late_call Tryz.func61 (by kernel_rfl) (by kernel_rfl) (fun x => KP.out _ x.w) rfl (by simp only [Act.put, List.setIfInBounds_toArray, List.set_cons_succ, List.set_cons_zero]; rfl) ?_
    refine wpQuiet_nil ?_
    refine late_call Tryz.func61 (by kernel_rfl) (by kernel_rfl) (fun x => KQ.out _ x.w) rfl (by simp only [Act.put, List.setIfInBounds_toArray, List.set_cons_succ, List.set_cons_zero]; rfl) ?_
    refine wpQuiet_nil ?_
    refine late_call Tryz.func33 (by kernel_rfl) (by kernel_rfl) (fun x => KU.out _ x.w) rfl (by simp only [Act.put, List.setIfInBounds_toArray, List.set_cons_succ, List.set_cons_zero]; rfl) ?_
    repeat (go_big_quiet_step (fail))
    refine wpQuiet_nil ?_
    refine late_call Tryz.func61 (by kernel_rfl) (by kernel_rfl) (fun x => KX.out _ x.w) rfl (by simp only [Act.put, List.setIfInBounds_toArray, List.set_cons_succ, List.set_cons_zero]; rfl) ?_
    repeat (go_big_quiet_step (fail))
    refine wpQuiet_nil ?_
    refine late_call Tryz.func61 (by kernel_rfl) (by kernel_rfl) (fun x => KR.out _ x.w) rfl (by simp only [Act.put, List.setIfInBounds_toArray, List.set_cons_succ, List.set_cons_zero]; rfl) ?_
    refine wpQuiet_nil ?_
    refine late_call Tryz.func34 (by kernel_rfl) (by kernel_rfl) (fun x => KS.out _ x.w) rfl (by simp only [Act.put, List.setIfInBounds_toArray, List.set_cons_succ, List.set_cons_zero]; rfl) ?_
    refine wpQuiet_nil ?_
    refine late_alloc (fun _ _ => by kernel_rfl) (fun x => Nat.le_trans hbd.size x.h.size) (by simp only [Act.put, List.setIfInBounds_toArray, List.set_cons_succ, List.set_cons_zero]; rfl) ?_
    refine wpQuiet_nil ?_
    intro x
    simp only [List.nil_append, allGens, Option.getD_some]
    rintro v ⟨d2, rfl, hd2, gd2⟩
    simp only [Act.put, List.setIfInBounds_toArray, List.set_cons_succ, List.set_cons_zero]
    have hI2 := HZ.out x
    clear HZ
    have hxh := x.h
    clear z1 z2 z3 z4 z5 z6 HT1
    have gM2 := blk_below (below_trans' hbd hbd.size hxh) gM
    have hlM := lt_of_blk gM
    generalize x.w = wy2 at *
    have y1 := cells2 gd2
    have y2 := free_of_block gd2
    have hI4 := hI2.other hI3 hd2 (.string S1) (.string S2)
    have gd' := block_set (block_set gd2 0 (.string S1)) 1 (.string S2)
    have gS : ((wy2.setCell ⟨d2, 0, none⟩ (.string S1)).setCell ⟨d2, 1, none⟩ (.string S2)).heap[d2]? = some (.cells #[.string S1, .string S2] 26 (0, 0)) := gd'
    have gM3 := keep2 gM2 (show d1 ≠ d2 by omega) (.string S1) (.string S2)
    clear gd' gd2 hI2 hd2 hI3 hbd hxh gM gM2 hlM
    obtain ⟨N1, N2, TN, CN⟩ := of_C (a := (n : Int)) (b := 1) (by decide) (by omega) (by omega) (by decide) (by decide) ((n_E2 hn5).fits (by decide) (by decide))
    obtain ⟨V1', V2', TV', CV⟩ := div_C TS TN (fr_ne (by omega) (by decide)) TV.1
    obtain ⟨rfl, rfl⟩ := TV.inj TV'
    have KN := Lib.hid CN
    have KV := Lib.hid CV
    clear CN CV TN TV' TS hTb KY KP KQ KU KX KR KS
    go_upto_region 11 with fail
    generalize (wy2.setCell ⟨d2, 0, none⟩ (.string S1)).setCell ⟨d2, 1, none⟩ (.string S2) = we at *
    clear y1 y2
    have hbd : Below we.heap.size we we.drew := (Below.refl _ _).drew
    have hz : ∀ x : Beh LeW we.drew, AInv w x.w NC NB NO NT C1 C2 B1 B2 O1 O2 T1 T2 := fun x => (hI4.go hbd).go x.h
    have z1 := fun x : Beh LeW we.drew => (cells2 (blk_below (below_trans' hbd hbd.size x.h) gM3)).1
    have z2 := fun x : Beh LeW we.drew => (cells2 (blk_below (below_trans' hbd hbd.size x.h) gM3)).2
    have z3 := fun x : Beh LeW we.drew => (cells2 (blk_below (below_trans' hbd hbd.size x.h) gS)).1
    have z4 := fun x : Beh LeW we.drew => (cells2 (blk_below (below_trans' hbd hbd.size x.h) gS)).2
    have HZ := Lib.hid hz
    clear hz
    refine wp_region_late (R := LeW) 9 88 [(4, [], none), (5, [], none), (6, [], none)] (by kernel_rfl) (by kernel_rfl) (by kernel_rfl) rfl LeW.refl (fun _ _ _ => LeW.trans) ?_
    simp only [Late, List.take_succ_cons, List.drop_succ_cons, List.take_zero, List.drop_zero, Nat.reduceSub, Nat.reduceAdd, Nat.sub_zero]
    repeat (go_big_quiet_step (fail))
    refine wpQuiet_nil ?_
    refine late_call Tryz.func60 (by kernel_rfl) (by kernel_rfl) (fun x => KN.out _ x.w) rfl (by simp only [Act.put, List.setIfInBounds_toArray, List.set_cons_succ, List.set_cons_zero]; rfl) ?_
    refine wpQuiet_nil ?_
    refine late_call Tryz.func62 (by kernel_rfl) (by kernel_rfl) (fun x => KV.out _ x.w) rfl (by simp only [Act.put, List.setIfInBounds_toArray, List.set_cons_succ, List.set_cons_zero]; rfl) ?_
    refine wpQuiet_nil ?_
    refine late_call Tryz.func32 (by kernel_rfl) (by kernel_rfl) (fun x => estimate86 NC n M1 M2 V1 V2 x.w (HZ.out x).cal) rfl (by simp only [Act.put, List.setIfInBounds_toArray, List.set_cons_succ, List.set_cons_zero]; rfl) ?_
    repeat (go_big_quiet_step (fail))
    refine wpQuiet_nil ?_
    intro x
    simp only [allGens]
    have hI5 := HZ.out x
    clear z1 z2 z3 z4 HZ gM3 gS hI4 hbd
    generalize x.w = w8 at *
    have G := hI5.res
    have y6 := free_of_block G
    have y7 := cells5 G
    obtain ⟨y0, y1, y2, y3, y4⟩ := cells5 (set5 G (.int .i64 n) (.string M1) (.string M2) (.string V1) (.string V2))
    have hbe := below_sets5 hI5.below (show w.heap.size ≤ w.heap.size + 1 by omega) (.int .i64 n) (.string M1) (.string M2) (.string V1) (.string V2)
    clear G hI5
    go_wp2_with fail
    exact bodyPost_ret (v := .tuple #[estV n M1 M2 V1 V2, .bool true]) (by simp [results, Tryz.results21, go_sem, y0, y1, y2, y3, y4]) rfl ⟨rfl, hbe⟩
end Go.Proofs.YtpligjkbnlfhgaaGreatDoor
