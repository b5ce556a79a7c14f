/- The ratio of two means. No statement is proved here. -/
import Derived.Test.YtpligjkbnlfhgaaGreatDoorEstA
import Derived.Test.YtpligjkbnlfhgaaGreatDoorPair
import Derived.IntWalk
namespace Go.Proofs.YtpligjkbnlfhgaaGreatDoor
open Go.RowKit

def ratV (f g : Nat → Int) (n : Nat) : Rat := sqQ (sumF f n) (sumF g n) f g n / (frQ (n * (n - 1)) 1 * (meanQ g n * meanQ g n))
section
variable {f g : Nat → Int} {n : Nat}
theorem natAbs_le {x : Int} {m : Nat} (h1 : -(m : Int) ≤ x) (h2 : x ≤ m) : x.natAbs ≤ m := by omega
theorem ratR_E2 (h : Fit f n) (k : Fit g n) (h0 : sumF g n ≠ 0) : E2 29 29 (frQ (sumF f n) (sumF g n)) := by
  have a := sum_fit h
  have b := sum_fit k
  exact E2.of_int h0 (natAbs_le (by simpa using a.1) (by simpa using a.2)) (natAbs_le (by simpa using b.1) (by simpa using b.2))
theorem nn_E2 (h : n ≤ 512) (h2 : 2 ≤ n) : E2 18 0 (frQ (n * (n - 1)) 1) := by
  have a := nn_fit h h2
  exact num_E2 (natAbs_le (by simp; omega) (by simpa using a.2))
theorem mean_ne (h1 : 1 ≤ n) (h0 : sumF g n ≠ 0) : meanQ g n ≠ 0 := fr_ne h0 (by omega)
theorem ratD_E2 (k : Fit g n) (h2 : 2 ≤ n) : E2 58 18 (meanQ g n * meanQ g n) ∧ E2 76 18 (frQ (n * (n - 1)) 1 * (meanQ g n * meanQ g n)) := by
  have a := mean_E2 k (by omega)
  have b := a.mul a
  exact ⟨b, ((nn_E2 k.1 h2).mul b).mono (by omega) (by omega)⟩
theorem mul_ne {x y : Rat} (hx : x ≠ 0) (hy : y ≠ 0) : x * y ≠ 0 := fun h => by
  rcases Rat.mul_eq_zero.1 h with h | h
  · exact hx h
  · exact hy h
theorem ratD_ne (h2 : 2 ≤ n) (h0 : sumF g n ≠ 0) : frQ (n * (n - 1)) 1 * (meanQ g n * meanQ g n) ≠ 0 :=
  mul_ne (fr_ne (nn_ne h2) (by decide)) (mul_ne (mean_ne (by omega) h0) (mean_ne (by omega) h0))
theorem ratV_E2 (h : Fit f n) (k : Fit g n) (h2 : 2 ≤ n) (h0 : sumF g n ≠ 0) : E2 127 134 (ratV f g n) :=
  ((sq_E2 h k (Nat.le_refl _) (sum_fit h) (sum_fit k) h0).div (ratD_E2 k h2).2 (ratD_ne h2 h0)).mono (by omega) (by omega)
theorem elt_E2 (h : Fit f n) {i : Nat} (hi : i < n) : E2 20 0 (frQ (f i) 1) := num_E2 (natAbs_le (by simpa using (h.2 i hi).1) (by simpa using (h.2 i hi).2))
theorem ratE_E2 (h : Fit f n) (k : Fit g n) (h0 : sumF g n ≠ 0) {i : Nat} (hi : i < n) :
    E2 49 29 (frQ (sumF f n) (sumF g n) * frQ (g i) 1) ∧ E2 50 29 (frQ (f i) 1 - frQ (sumF f n) (sumF g n) * frQ (g i) 1) ∧
      E2 100 58 ((frQ (f i) 1 - frQ (sumF f n) (sumF g n) * frQ (g i) 1) * (frQ (f i) 1 - frQ (sumF f n) (sumF g n) * frQ (g i) 1)) := by
  have a := ((ratR_E2 h k h0).mul (elt_E2 k hi)).mono (c := 49) (d := 29) (by omega) (by omega)
  have b := ((elt_E2 h hi).sub a (e := 49) (by omega) (by omega)).mono (c := 50) (d := 29) (by omega) (by omega)
  exact ⟨a, b, b.mul b⟩
end

/-- What stands while the squares are added. -/
structure RInv (w wr : World) (c r m s : Nat) (R1 R2 M1 M2 S1 S2 : ByteArray) : Prop where
  below : Below w.heap.size w wr
  res : wr.heap[w.heap.size]? = some (.cells #[.int .i64 0, .string ⟨#[]⟩, .string ⟨#[]⟩, .string ⟨#[]⟩, .string ⟨#[]⟩] 28 (0, 0))
  cal : wr.heap[c]? = some (.cells #[.bool false] 64 (0, 0))
  r : wr.heap[r]? = some (.cells #[.string R1, .string R2] 26 (0, 0))
  m : wr.heap[m]? = some (.cells #[.string M1, .string M2] 26 (0, 0))
  s : wr.heap[s]? = some (.cells #[.string S1, .string S2] 26 (0, 0))
theorem RInv.go {w wr wx : World} {c r m s : Nat} {R1 R2 M1 M2 S1 S2 : ByteArray} (h : RInv w wr c r m s R1 R2 M1 M2 S1 S2) (hb : Below wr.heap.size wr wx) : RInv w wx c r m s R1 R2 M1 M2 S1 S2 :=
  ⟨below_trans' h.below h.below.size hb, blk_below hb h.res, blk_below hb h.cal, blk_below hb h.r, blk_below hb h.m, blk_below hb h.s⟩
theorem other_blk' {w : World} {g h i : Nat} {x : Value} (hne : g ≠ h) : (w.setCell ⟨g, i, none⟩ x).heap[h]? = w.heap[h]? := Below.heap_setCell w ⟨g, i, none⟩ x h (Ne.symm hne)
theorem keep2 {w : World} {g S : Nat} {o : Obj} (h : w.heap[g]? = some o) (hne : g ≠ S) (u v : Value) : ((w.setCell ⟨S, 0, none⟩ u).setCell ⟨S, 1, none⟩ v).heap[g]? = some o := by
  rw [other_blk' (Ne.symm hne), other_blk' (Ne.symm hne)]; exact h
theorem RInv.set {w wr : World} {c r m s : Nat} {R1 R2 M1 M2 S1 S2 : ByteArray} (h : RInv w wr c r m s R1 R2 M1 M2 S1 S2) (h0 : w.heap.size < s) (h1 : c ≠ s) (h2 : r ≠ s) (h3 : m ≠ s) (T1 T2 : ByteArray) :
    RInv w ((wr.setCell ⟨s, 0, none⟩ (.string T1)).setCell ⟨s, 1, none⟩ (.string T2)) c r m s R1 R2 M1 M2 T1 T2 :=
  ⟨below_sets2 h.below (by omega) _ _, keep2 h.res (by omega) _ _, keep2 h.cal h1 _ _, keep2 h.r h2 _ _, keep2 h.m h3 _ _, block_set (block_set h.s 0 _) 1 _⟩

theorem RInv.other {w wr wx : World} {c r m s d : Nat} {R1 R2 M1 M2 S1 S2 : ByteArray} (h : RInv w wx c r m s R1 R2 M1 M2 S1 S2) (h' : RInv w wr c r m s R1 R2 M1 M2 S1 S2) (hd : wr.heap.size ≤ d) (T1 T2 : Value) :
    RInv w ((wx.setCell ⟨d, 0, none⟩ T1).setCell ⟨d, 1, none⟩ T2) c r m s R1 R2 M1 M2 S1 S2 := by
  have e1 := lt_of_blk h'.res
  have e2 := lt_of_blk h'.cal
  have e3 := lt_of_blk h'.r
  have e4 := lt_of_blk h'.m
  have e5 := lt_of_blk h'.s
  exact ⟨below_sets2 h.below (by have := h'.below.size; omega) _ _, keep2 h.res (by omega) _ _, keep2 h.cal (by omega) _ _, keep2 h.r (by omega) _ _, keep2 h.m (by omega) _ _, keep2 h.s (by omega) _ _⟩

set_option maxRecDepth 100000 in
set_option maxHeartbeats 16000000 in
theorem ratio45 (A B : Option Addr) (n ca cb : Nat) (f g : Nat → Int) (R1 R2 V1 V2 : ByteArray) (w : World) (hl : IntsV w A n ca f) (hm : IntsV w B n cb g) (hf : Fit f n) (hg : Fit g n) (h2 : 2 ≤ n) (h0 : sumF g n ≠ 0)
    (TR : Tx R1 R2 (frQ (sumF f n) (sumF g n))) (TV : Tx V1 V2 (ratV f g n)) :
    Calls Tryz.prog 19 #[.slice A n ca, .slice B n cb] w fun e w' => e = .returned (.tuple #[estV n R1 R2 V1 V2, .bool true]) ∧ Below w.heap.size w w' := by
  obtain ⟨o1, q1, rfl, hbk1, hcl1⟩ := hl.rd (by omega)
  obtain ⟨o2, q2, rfl, hbk2, hcl2⟩ := hm.rd (by omega)
  have HL1 := Lib.hid hcl1
  have HL2 := Lib.hid hcl2
  clear hcl1 hcl2
  obtain ⟨hbW, g0, g1, g2⟩ := allocs3 w #[.int .i64 0, .string ⟨#[]⟩, .string ⟨#[]⟩, .string ⟨#[]⟩, .string ⟨#[]⟩] #[.slice (some ⟨o1, q1, none⟩) n ca, .slice (some ⟨o2, q2, none⟩) n cb] #[.bool false] 28 31 64
  obtain ⟨hbV, -, v1⟩ := allocs2' w #[.int .i64 0, .string ⟨#[]⟩, .string ⟨#[]⟩, .string ⟨#[]⟩, .string ⟨#[]⟩] #[.slice (some ⟨o1, q1, none⟩) n ca, .slice (some ⟨o2, q2, none⟩) n cb] 28 31
  have hl1 := hl.below hbV
  have hm1 := hm.below hbV
  have hC := fits85 2 2 2 _ _ _ _ _ _ (by decide) (by decide) (by decide) (rdl_two v1 hl1.rd hm1.rd hl1.le hl1.max hm1.le hm1.max)
  rw [fits_two.2 ⟨rfl, h2, hf, hg⟩] at hC
  have HC := Lib.hid hC
  have hn5 := hf.1
  have hs := sum_fit hf
  have ht := sum_fit hg
  have h0' : (sumF g n == 0) = false := by rw [beq_eq_false_iff_ne]; exact h0
  have HF := Lib.hid hf
  have HG := Lib.hid hg
  have hW3 : w.heap.size + 1 + 1 < (((w.alloc (.cells #[.int .i64 0, .string ⟨#[]⟩, .string ⟨#[]⟩, .string ⟨#[]⟩, .string ⟨#[]⟩] 28)).alloc (.cells #[.slice (some ⟨o1, q1, none⟩) n ca, .slice (some ⟨o2, q2, none⟩) n cb] 31)).alloc (.cells #[.bool false] 64)).heap.size := lt_of_blk g2
  obtain ⟨M1, M2, -, TM⟩ := txV_tx ((mean_E2 hg (by omega)).fits (by decide) (by decide))
  obtain ⟨Z1, Z2, -, TZ⟩ := txV_tx ((num_E2 (x := 0) (a := 0) (by decide)).fits (by decide) (by decide))
  clear hC g1 hf hg
  go_enter Tryz.func19, Tryz.ntmps19
  go_wp2_with fail
  refine HC.out.mono ?_
  rintro e w' ⟨rfl, rfl⟩
  go_wp2_with fail
  refine (total88 _ n cb g _ hm1.rd HG.out).mono ?_
  rintro e w' ⟨rfl, rfl⟩
  clear v1
  go_wp2_with fail
  clear hl1 hm1 hbV
  generalize ((w.alloc (.cells #[.int .i64 0, .string ⟨#[]⟩, .string ⟨#[]⟩, .string ⟨#[]⟩, .string ⟨#[]⟩] 28)).alloc (.cells #[.slice (some ⟨o1, q1, none⟩) n ca, .slice (some ⟨o2, q2, none⟩) n cb] 31)).alloc (.cells #[.bool false] 64) = W at *
  have hl2 := hl.below hbW
  have hm2 := hm.below hbW
  refine (total88 _ n ca f _ hl2.rd HF.out).mono ?_
  rintro e w' ⟨rfl, rfl⟩
  go_wp2_with fail
  refine (total88 _ n cb g _ hm2.rd HG.out).mono ?_
  rintro e w' ⟨rfl, rfl⟩
  go_wp2_with fail
  refine (of_V _ TR rfl h0 (by omega) (by omega) (by omega) (by omega) _).mono ?_
  rintro e w1 ⟨rfl, b1⟩
  go_wp2_with fail
  refine (total88 _ n cb g _ (hm2.below b1).rd HG.out).mono ?_
  rintro e w' ⟨rfl, rfl⟩
  go_wp2_with fail
  refine (of_V _ TM rfl (by omega) (by omega) (by omega) (by omega) (by omega) _).mono ?_
  rintro e w2 ⟨rfl, b2⟩
  replace b2 := below_trans' b1 b1.size b2
  obtain ⟨b3, gr, gm⟩ := allocs2' w2 #[.string R1, .string R2] #[.string M1, .string M2] 26 26
  have hlt2 : W.heap.size ≤ w2.heap.size := b2.size
  replace b3 := below_trans' b2 b2.size b3
  clear b1 b2
  go_wp2_with fail
  generalize (w2.alloc (.cells #[.string R1, .string R2] 26)).alloc (.cells #[.string M1, .string M2] 26) = w3 at *
  have hlt3 : w2.heap.size + 1 < w3.heap.size := lt_of_blk gm
  generalize w2.heap.size = NR at *
  refine (of_V _ TZ rfl (by decide) (by decide) (by decide) (by decide) (by decide) _).mono ?_
  rintro e w4 ⟨rfl, b4⟩
  have gs := heap_alloc_new w4 (.cells #[.string Z1, .string Z2] 26)
  have b5 : Below w4.heap.size w4 (w4.alloc (.cells #[.string Z1, .string Z2] 26)) := (Below.refl _ _).alloc (Nat.le_refl _) _
  have hlt4 : w3.heap.size ≤ w4.heap.size := b4.size
  replace b5 := below_trans' b4 b4.size b5
  have b6 := below_trans' b3 b3.size b5
  have hI : RInv w (w4.alloc (.cells #[.string Z1, .string Z2] 26)) (w.heap.size + 1 + 1) NR (NR + 1) w4.heap.size R1 R2 M1 M2 Z1 Z2 :=
    ⟨below_trans' hbW hbW.size b6, blk_below b6 g0, blk_below b6 g2, blk_below b5 gr, blk_below b5 gm, gs⟩
  clear gs b5 b4 b6 b3 gr gm g0 g2 hl2 hm2
  go_wp2_with fail
  generalize w4.alloc (.cells #[.string Z1, .string Z2] 26) = w5 at *
  have n1 : w.heap.size < w4.heap.size := by omega
  have n2 : w.heap.size + 1 + 1 ≠ w4.heap.size := by omega
  have n3 : NR ≠ w4.heap.size := by omega
  have n4 : NR + 1 ≠ w4.heap.size := by omega
  generalize w4.heap.size = NS at *
  clear hlt2 hlt3 hlt4
  have HN2 := Lib.hid n2
  have HN3 := Lib.hid n3
  have HN4 := Lib.hid n4
  clear n2 n3 n4 hbW hW3
  generalize hNC : w.heap.size + 1 + 1 = NC at *
  generalize hNM : NR + 1 = NM at *
  clear hNC hNM
  have TZ0 : Tx Z1 Z2 (sqQ (sumF f n) (sumF g n) f g 0) := by rw [sqQ_zero]; exact TZ
  go_loopg [11, 12, 38] n (fun r _ _ i wr => ∃ (k : Nat) (S1 S2 : ByteArray), k ≤ n ∧ r = n - k ∧ i = .int .i64 k ∧ Tx S1 S2 (sqQ (sumF f n) (sumF g n) f g k) ∧ RInv w wr NC NR NM NS R1 R2 M1 M2 S1 S2)
  case atStart => exact ⟨0, Z1, Z2, by omega, rfl, rfl, TZ0, hI⟩
  case round =>
    obtain ⟨k, S1, S2, hk, hr', rfl, TS, hI⟩ := hrel
    have HR := Lib.hid hr'
    clear hr'
    clear TZ0
    have hbd : Below wr.heap.size wr wr.drew := (Below.refl _ _).drew
    by_cases hkn : k < n
    · have hkI : (k : Int) < n := by omega
      have hfk := HF.out.2 k hkn
      have hgk := HG.out.2 k hkn
      have hE := ratE_E2 HF.out HG.out h0 hkn
      obtain ⟨P1, P2, TP, CP⟩ := of_C (a := f k) (b := 1) (by decide) (by omega) (by omega) (by decide) (by decide) ((elt_E2 HF.out hkn).fits (by decide) (by decide))
      obtain ⟨Q1, Q2, TQ, CQ⟩ := of_C (a := g k) (b := 1) (by decide) (by omega) (by omega) (by decide) (by decide) ((elt_E2 HG.out hkn).fits (by decide) (by decide))
      obtain ⟨U1, U2, TU, CU⟩ := mul_C TR TQ (hE.1.fits (by decide) (by decide))
      obtain ⟨D1, D2, TD, CD⟩ := sub_C TP TU (hE.2.1.fits (by decide) (by decide))
      obtain ⟨E1, E2, TE, CE⟩ := mul_C TD TD (hE.2.2.fits (by decide) (by decide))
      have hS1 := sqQ_succ (A := sumF f n) h0 f g k
      obtain ⟨T1, T2, TT, CT⟩ := add_C TS TE (by rw [← hS1]; exact (sq_E2 HF.out HG.out (by omega) (sum_fit HF.out) (sum_fit HG.out) h0).fits (by decide) (by decide))
      rw [← hS1] at TT
      have KP := Lib.hid CP
      have KQ := Lib.hid CQ
      have KU := Lib.hid CU
      have KD := Lib.hid CD
      have KE := Lib.hid CE
      have KT := Lib.hid CT
      have hcell : ∀ wx, Below w.heap.size w wx → wx.cell? ⟨o1, q1 + k, none⟩ = some (.int .i64 (f k)) ∧ wx.cell? ⟨o2, q2 + k, none⟩ = some (.int .i64 (g k)) := fun wx h =>
        ⟨(h.cell (p := ⟨o1, q1 + k, none⟩) hbk1).trans (HL1.out k hkn), (h.cell (p := ⟨o2, q2 + k, none⟩) hbk2).trans (HL2.out k hkn)⟩
      have HCell := Lib.hid hcell
      clear CP CQ CU CD CE CT hS1 hE hcell hfk hgk TS TP TQ TU TD TE
      go_upto_region 10 with fail
      have hz : ∀ x : Beh LeW wr.drew, RInv w x.w NC NR NM NS R1 R2 M1 M2 S1 S2 := fun x => (hI.go hbd).go x.h
      have z1 := fun x : Beh LeW wr.drew => (HCell.out _ (hz x).below).1
      have z2 := fun x : Beh LeW wr.drew => (HCell.out _ (hz x).below).2
      have z3 := fun x : Beh LeW wr.drew => (cells2 (hz x).r).1
      have z4 := fun x : Beh LeW wr.drew => (cells2 (hz x).r).2
      have HZ := Lib.hid hz
      clear hz
      refine wp_region_late (R := LeW) 14 76 [(4, [], none), (10, [], none), (11, [], none), (12, [], none), (13, [], some (fresh wr.heap.size #[.string ⟨#[]⟩, .string ⟨#[]⟩] 26))] (by kernel_rfl) (by kernel_rfl) (by kernel_rfl) rfl LeW.refl (fun _ _ _ => LeW.trans) ?_
      simp only [Late, List.take_succ_cons, List.drop_succ_cons, List.take_zero, List.drop_zero, Nat.reduceSub, Nat.reduceAdd, Nat.sub_zero]
      repeat (go_big_quiet_step (fail))
      refine wpQuiet_nil ?_
      refine late_call Tryz.func60 (by kernel_rfl) (by kernel_rfl) (fun x => KP.out _ x.w) rfl (by simp only [Act.put, List.setIfInBounds_toArray, List.set_cons_succ, List.set_cons_zero]; rfl) ?_
      repeat (go_big_quiet_step (fail))
      refine wpQuiet_nil ?_
      refine late_call Tryz.func60 (by kernel_rfl) (by kernel_rfl) (fun x => KQ.out _ x.w) rfl (by simp only [Act.put, List.setIfInBounds_toArray, List.set_cons_succ, List.set_cons_zero]; rfl) ?_
      refine wpQuiet_nil ?_
      refine late_call Tryz.func61 (by kernel_rfl) (by kernel_rfl) (fun x => KU.out _ x.w) rfl (by simp only [Act.put, List.setIfInBounds_toArray, List.set_cons_succ, List.set_cons_zero]; rfl) ?_
      refine wpQuiet_nil ?_
      refine late_call Tryz.func33 (by kernel_rfl) (by kernel_rfl) (fun x => KD.out _ x.w) rfl (by simp only [Act.put, List.setIfInBounds_toArray, List.set_cons_succ, List.set_cons_zero]; rfl) ?_
      refine wpQuiet_nil ?_
      refine late_alloc (fun _ _ => by kernel_rfl) (fun x => Nat.le_trans hbd.size x.h.size) (by simp only [Act.put, List.setIfInBounds_toArray, List.set_cons_succ, List.set_cons_zero]; rfl) ?_
      refine wpQuiet_nil ?_
      intro x
      simp only [List.nil_append, allGens, Option.getD_some]
      rintro v12 ⟨d, rfl, hd, gd⟩
      simp only [Act.put, List.setIfInBounds_toArray, List.set_cons_succ, List.set_cons_zero]
      have hI2 := HZ.out x
      clear z1 z2 z3 z4 HZ
      generalize x.w = wy at *
      have y1 := cells2 gd
      have y2 := free_of_block gd
      have hI3 := hI2.other hI hd (.string D1) (.string D2)
      have gd' := block_set (block_set gd 0 (.string D1)) 1 (.string D2)
      have gd2 : ((wy.setCell ⟨d, 0, none⟩ (.string D1)).setCell ⟨d, 1, none⟩ (.string D2)).heap[d]? = some (.cells #[.string D1, .string D2] 26 (0, 0)) := gd'
      clear gd' gd hI2
      go_upto_region 11 with fail
      generalize (wy.setCell ⟨d, 0, none⟩ (.string D1)).setCell ⟨d, 1, none⟩ (.string D2) = w7 at *
      clear y1 y2
      have hb7 : Below w7.heap.size w7 w7.drew := (Below.refl _ _).drew
      have hz : ∀ x : Beh LeW w7.drew, RInv w x.w NC NR NM NS R1 R2 M1 M2 S1 S2 := fun x => (hI3.go hb7).go x.h
      have z1 := fun x : Beh LeW w7.drew => (cells2 (hz x).s).1
      have z2 := fun x : Beh LeW w7.drew => (cells2 (hz x).s).2
      have z3 := fun x : Beh LeW w7.drew => (cells2 (blk_below (below_trans' hb7 hb7.size x.h) gd2)).1
      have z4 := fun x : Beh LeW w7.drew => (cells2 (blk_below (below_trans' hb7 hb7.size x.h) gd2)).2
      have HZ := Lib.hid hz
      clear hz
      refine wp_region_late (R := LeW) 5 76 [(3, [], none), (4, [], none)] (by kernel_rfl) (by kernel_rfl) (by kernel_rfl) rfl LeW.refl (fun _ _ _ => LeW.trans) ?_
      simp only [Late, List.take_succ_cons, List.drop_succ_cons, List.take_zero, List.drop_zero, Nat.reduceSub, Nat.reduceAdd, Nat.sub_zero]
      repeat (go_big_quiet_step (fail))
      refine wpQuiet_nil ?_
      refine late_call Tryz.func61 (by kernel_rfl) (by kernel_rfl) (fun x => KE.out _ x.w) rfl (by simp only [Act.put, List.setIfInBounds_toArray, List.set_cons_succ, List.set_cons_zero]; rfl) ?_
      refine wpQuiet_nil ?_
      refine late_call Tryz.func34 (by kernel_rfl) (by kernel_rfl) (fun x => KT.out _ x.w) rfl (by simp only [Act.put, List.setIfInBounds_toArray, List.set_cons_succ, List.set_cons_zero]; rfl) ?_
      refine wpQuiet_nil ?_
      intro x
      simp only [allGens]
      have hI4 := HZ.out x
      clear z1 z2 z3 z4 HZ gd2 hI3 hb7
      generalize x.w = w8 at *
      have y1 := cells2 hI4.s
      have y2 := free_of_block hI4.s
      have hI5 := hI4.set n1 HN2.out HN3.out HN4.out T1 T2
      clear hI4
      go_wp2_with fail
      go_roundg (n - (k + 1))
      case measure => have := HR.out; omega
      case rel => exact ⟨k + 1, T1, T2, by omega, rfl, by go_num, TT, hI5⟩
    · have hkn' : k = n := by omega
      subst hkn'
      have hnn := nn_fit hn5 h2
      have x1 : IntKind.i64.wrap ((k : Int) - 1) = (k : Int) - 1 := IntWalk.i64_in _ (by omega)
      have x2 : IntKind.i64.wrap ((k : Int) * ((k : Int) - 1)) = (k : Int) * ((k : Int) - 1) := IntWalk.i64_in _ (by omega)
      obtain ⟨N1, N2, TN, CN⟩ := of_C (a := (k : Int) * ((k : Int) - 1)) (b := 1) (by decide) (by omega) (by omega) (by decide) (by decide) ((nn_E2 hn5 h2).fits (by decide) (by decide))
      have hD := ratD_E2 HG.out h2
      obtain ⟨U1, U2, TU, CU⟩ := mul_C TM TM (hD.1.fits (by decide) (by decide))
      obtain ⟨D1, D2, TD, CD⟩ := mul_C TN TU (hD.2.fits (by decide) (by decide))
      obtain ⟨V1', V2', TV', CV⟩ := div_C TS TD (ratD_ne h2 h0) TV.1
      obtain ⟨rfl, rfl⟩ := TV.inj TV'
      have KN := Lib.hid CN
      have KU := Lib.hid CU
      have KD := Lib.hid CD
      have KV := Lib.hid CV
      clear CN CU CD CV hD TN TU TD TV' hnn
      go_upto_region 13 with fail
      have hz : ∀ x : Beh LeW wr.drew, RInv w x.w NC NR NM NS R1 R2 M1 M2 S1 S2 := fun x => (hI.go hbd).go x.h
      have z1 := fun x : Beh LeW wr.drew => (cells2 (hz x).r).1
      have z2 := fun x : Beh LeW wr.drew => (cells2 (hz x).r).2
      have z3 := fun x : Beh LeW wr.drew => (cells2 (hz x).m).1
      have z4 := fun x : Beh LeW wr.drew => (cells2 (hz x).m).2
      have z5 := fun x : Beh LeW wr.drew => (cells2 (hz x).s).1
      have z6 := fun x : Beh LeW wr.drew => (cells2 (hz x).s).2
      have HZ := Lib.hid hz
      clear hz
      refine wp_region_late (R := LeW) 16 76 [(7, [], none), (10, [], none), (11, [], none), (12, [], none), (13, [], none)] (by kernel_rfl) (by kernel_rfl) (by kernel_rfl) rfl LeW.refl (fun _ _ _ => LeW.trans) ?_
      simp only [Late, List.take_succ_cons, List.drop_succ_cons, List.take_zero, List.drop_zero, Nat.reduceSub, Nat.reduceAdd, Nat.sub_zero]
      repeat (go_big_quiet_step (fail))
      refine wpQuiet_nil ?_
      refine late_call Tryz.func60 (by kernel_rfl) (by kernel_rfl) (fun x => KN.out _ x.w) rfl (by simp only [Act.put, List.setIfInBounds_toArray, List.set_cons_succ, List.set_cons_zero]; rfl) ?_
      repeat (go_big_quiet_step (fail))
      refine wpQuiet_nil ?_
      refine late_call Tryz.func61 (by kernel_rfl) (by kernel_rfl) (fun x => KU.out _ x.w) rfl (by simp only [Act.put, List.setIfInBounds_toArray, List.set_cons_succ, List.set_cons_zero]; rfl) ?_
      refine wpQuiet_nil ?_
      refine late_call Tryz.func61 (by kernel_rfl) (by kernel_rfl) (fun x => KD.out _ x.w) rfl (by simp only [Act.put, List.setIfInBounds_toArray, List.set_cons_succ, List.set_cons_zero]; rfl) ?_
      refine wpQuiet_nil ?_
      refine late_call Tryz.func62 (by kernel_rfl) (by kernel_rfl) (fun x => KV.out _ x.w) rfl (by simp only [Act.put, List.setIfInBounds_toArray, List.set_cons_succ, List.set_cons_zero]; rfl) ?_
      refine wpQuiet_nil ?_
      refine late_call Tryz.func32 (by kernel_rfl) (by kernel_rfl) (fun x => estimate86 NC k R1 R2 V1 V2 x.w (HZ.out x).cal) rfl (by simp only [Act.put, List.setIfInBounds_toArray, List.set_cons_succ, List.set_cons_zero]; rfl) ?_
      repeat (go_big_quiet_step (fail))
      refine wpQuiet_nil ?_
      intro x
      simp only [allGens]
      have hI4 := HZ.out x
      clear z1 z2 z3 z4 z5 z6 HZ x1 x2
      generalize x.w = w8 at *
      have G := hI4.res
      have y6 := free_of_block G
      have y7 := cells5 G
      obtain ⟨y0, y1, y2, y3, y4⟩ := cells5 (set5 G (.int .i64 k) (.string R1) (.string R2) (.string V1) (.string V2))
      have hbe := below_sets5 hI4.below (Nat.le_refl _) (.int .i64 k) (.string R1) (.string R2) (.string V1) (.string V2)
      clear G hI4
      go_wp2_with fail
      exact bodyPost_ret (v := .tuple #[estV k R1 R2 V1 V2, .bool true]) (by simp [results, Tryz.results19, go_sem, y0, y1, y2, y3, y4]) rfl ⟨rfl, hbe⟩
end Go.Proofs.YtpligjkbnlfhgaaGreatDoor
