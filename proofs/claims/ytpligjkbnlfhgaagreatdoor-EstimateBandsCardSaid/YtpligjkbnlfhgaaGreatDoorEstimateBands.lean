/- The walk of EstimateBands. -/
import Derived.Test.YtpligjkbnlfhgaaGreatDoorDf1
import Derived.Test.YtpligjkbnlfhgaaGreatDoorBd2
import Derived.Test.YtpligjkbnlfhgaaGreatDoorNumA
import Derived.Test.YtpligjkbnlfhgaaGreatDoorRow
namespace Go.Proofs.YtpligjkbnlfhgaaGreatDoor
open Go.RowKit

theorem of_ref (A : Option Addr) (n c : Nat) (f : Nat → Int) : ∃ N X Y V W ok, (X.size ≤ maxLen ∧ Y.size ≤ maxLen ∧ V.size ≤ maxLen ∧ W.size ≤ maxLen) ∧ ∀ w, IntsV w A n c f → Calls Tryz.prog 7 #[.slice A n c] w fun e w' => e = .returned (estT N X Y V W ok) ∧ Below w.heap.size w w' := by
  by_cases h : 2 ≤ n ∧ Fit f n
  · obtain ⟨X, Y, h'⟩ := tx_of (mean_E2 h.2 (by omega)) (by omega) (by omega)
    obtain ⟨V, W, h''⟩ := tx_of (var_E2 h.2 h.1) (by omega) (by omega)
    exact ⟨n, X, Y, V, W, true, ⟨h'.lens.1, h'.lens.2, h''.lens.1, h''.lens.2⟩, fun w hl => of7 A n c f X Y V W w hl h.2 h.1 h' h''⟩
  · exact ⟨_, _, _, _, _, _, ⟨nil_len, nil_len, nil_len, nil_len⟩, fun w hl => of7_bad A n c f w hl h⟩

set_option maxRecDepth 100000 in
set_option maxHeartbeats 16000000 in
theorem estimateBands3 (a0 : Option Addr) (len0 cap0 : Nat) (z0 : List Int) (a1 : Option Addr) (len1 cap1 : Nat) (z1 : List Int) (a2 a3 a4 : Int) (w : World) (w0 : IsRow .i32 w a0 len0 cap0 z0) (w1 : IsRow .i32 w a1 len1 cap1 z1) (w2 : (Lit.int .u8 a2).wf = true) (w3 : (Lit.int .i16 a3).wf = true) (w4 : (Lit.int .i16 a4).wf = true) :
    Calls Tryz.prog 3 #[.slice a0 len0 cap0, .slice a1 len1 cap1, .int .u8 a2, .int .i16 a3, .int .i16 a4] w fun e w' => e = .returned (.bool true) ∧ Below w.heap.size w w' := by
  have hs := bounds_u8 w2
  have h3 := bounds_i16 w3
  have h4 := bounds_i16 w4
  obtain ⟨r0, l0, c0, m0⟩ := w0.rd
  obtain ⟨r1, l1, c1, m1⟩ := w1.rd
  have hs4 : 0 ≤ a2 / 4 ∧ a2 / 4 ≤ 255 := by omega
  have HN0 := Lib.hid (fun w (r : RdW w a0 len0 (fun i => z0.getD i 0)) => numbers94 a0 len0 cap0 a2 (fun i => z0.getD i 0) w hs r (fun i hi => bounds_i32 (l0 i hi)) (Nat.le_trans c0 m0))
  have HN1 := Lib.hid (fun w (r : RdW w a1 len1 (fun i => z1.getD i 0)) => numbers94 a1 len1 cap1 (a2 / 4) (fun i => z1.getD i 0) w hs4 r (fun i hi => bounds_i32 (l1 i hi)) (Nat.le_trans c1 m1))
  obtain ⟨F, hF⟩ : ∃ F : Nat → Int, (fun i => numN a2 (z0.getD i 0)) = F := ⟨_, rfl⟩
  obtain ⟨G, hG⟩ : ∃ G : Nat → Int, (fun i => numN (a2 / 4) (z1.getD i 0)) = G := ⟨_, rfl⟩
  rw [hF] at HN0
  rw [hG] at HN1
  obtain ⟨k, hk⟩ : ∃ k, min len0 60 = k := ⟨_, rfl⟩
  obtain ⟨l, hl⟩ : ∃ l, min len1 60 = l := ⟨_, rfl⟩
  rw [hk] at HN0
  rw [hl] at HN1
  obtain ⟨K1, K2, x, TK, hK⟩ := frac_any (a := a3) (b := a4) (by omega) (by omega) (by omega) (by omega)
  have sK := TK.lens
  have HK := Lib.hid hK
  have R0 : RdW w a0 len0 (fun i => z0.getD i 0) := r0
  have R1 : RdW w a1 len1 (fun i => z1.getD i 0) := r1
  generalize (fun i => z0.getD i 0) = f0 at *
  generalize (fun i => z1.getD i 0) = f1 at *
  clear w0 w1 w2 w3 w4 hF hG hk hl l0 l1 c0 c1 m0 m1 r0 r1 TK hK
  go_enter Tryz.func3, Tryz.ntmps3
  go_wp2_with fail
  refine (awake35 w).mono ?_
  rintro e u0 ⟨rfl, hbr⟩
  replace R0 := R0.below hbr
  replace R1 := R1.below hbr
  go_wp2_with fail
  refine (HN0.out u0 R0).mono ?_
  rintro e u1 ⟨A1, d1, rfl, o1, hb1⟩
  have hsz := hb1.size
  replace R1 := R1.below hb1
  replace hbr := below_trans' hbr hbr.size hb1
  have i1 := o1.intsV
  obtain ⟨N1, X1, Y1, V1, W1, ok1, z1', hO1⟩ := of_ref A1 k d1 F
  have HO1 := Lib.hid hO1
  have Z1 := Lib.hid z1'
  clear hb1 hsz o1 R0 HN0 hO1 z1'
  go_wp2_with fail
  refine (HO1.out _ i1).mono ?_
  rintro e w1 ⟨rfl, hbq⟩
  have hst := below_trans' hbq hbq.size ((Below.refl w1.heap.size w1).alloc (Nat.le_refl _) (.cells #[.int .i64 N1, .string X1, .string Y1, .string V1, .string W1] 28))
  have t1 := heap_alloc_new w1 (.cells #[.int .i64 N1, .string X1, .string Y1, .string V1, .string W1] 28)
  replace R1 := R1.below hst
  replace hbr := below_trans' hbr hbr.size hst
  clear hst hbq
  go_wp2_with fail
  generalize w1.alloc (.cells #[.int .i64 N1, .string X1, .string Y1, .string V1, .string W1] 28) = v1 at *
  generalize w1.heap.size = B1 at *
  refine (HN1.out _ R1).mono ?_
  rintro e u3 ⟨A2, d2, rfl, o2, hb1⟩
  replace t1 := blk_below hb1 t1
  replace hbr := below_trans' hbr hbr.size hb1
  have i2 := o2.intsV
  obtain ⟨N2, X2, Y2, V2, W2, ok2, z2', hO2⟩ := of_ref A2 l d2 G
  have HO2 := Lib.hid hO2
  have Z2 := Lib.hid z2'
  clear hb1 o2 R1 HN1 hO2 z2'
  go_wp2_with fail
  refine (HO2.out _ i2).mono ?_
  rintro e w2 ⟨rfl, hbq⟩
  have hst := below_trans' hbq hbq.size ((Below.refl w2.heap.size w2).alloc (Nat.le_refl _) (.cells #[.int .i64 N2, .string X2, .string Y2, .string V2, .string W2] 28))
  have t2 := heap_alloc_new w2 (.cells #[.int .i64 N2, .string X2, .string Y2, .string V2, .string W2] 28)
  replace t1 := blk_below hst t1
  replace hbr := below_trans' hbr hbr.size hst
  clear hst hbq
  cases ok1
  · go_wp2_with fail
    go_ret
    exact ⟨rfl, hbr⟩
  cases ok2
  · go_wp2_with fail
    go_ret
    exact ⟨rfl, hbr⟩
  go_wp2_with fail
  generalize w2.alloc (.cells #[.int .i64 N2, .string X2, .string Y2, .string V2, .string W2] 28) = v2 at *
  generalize w2.heap.size = B2 at *
  refine (HK.out _).mono ?_
  rintro e w3 ⟨rfl, hbq⟩
  have hst := below_trans' hbq hbq.size ((Below.refl w3.heap.size w3).alloc (Nat.le_refl _) (.cells #[.string K1, .string K2] 26))
  have t3 := heap_alloc_new w3 (.cells #[.string K1, .string K2] 26)
  replace t1 := blk_below hst t1
  replace t2 := blk_below hst t2
  replace hbr := below_trans' hbr hbr.size hst
  clear hst hbq
  obtain ⟨N3, A, B, C, D, ok3, sd, hD⟩ := diff_two N1 N2 X1 Y1 V1 W1 X2 Y2 V2 W2 Z1.out Z2.out
  have HD := Lib.hid hD
  obtain ⟨lo, hi, ok4, hb, hBd⟩ := band_two N3 A B C D K1 K2 sd.1 sd.2.1 sd.2.2.1 sd.2.2.2 sK.1 sK.2
  have HB := Lib.hid hb
  have HBd := Lib.hid hBd
  have SD := Lib.hid sd
  clear hD hb hBd sd sK
  have q1 := cells5 t1
  have q2 := cells5 t2
  go_wp2_with fail
  generalize w3.alloc (.cells #[.string K1, .string K2] 26) = v3 at *
  generalize w3.heap.size = B3 at *
  clear q1 q2
  refine ((HD.out _).1).mono ?_
  rintro e w4 ⟨rfl, hbq⟩
  have hst := below_trans' hbq hbq.size ((Below.refl w4.heap.size w4).alloc (Nat.le_refl _) (.cells #[.int .i64 N3, .string A, .string B, .string C, .string D] 28))
  have t4 := heap_alloc_new w4 (.cells #[.int .i64 N3, .string A, .string B, .string C, .string D] 28)
  replace t1 := blk_below hst t1
  replace t2 := blk_below hst t2
  replace t3 := blk_below hst t3
  replace hbr := below_trans' hbr hbr.size hst
  clear hst hbq
  have q1 := cells5 t1
  have q2 := cells5 t2
  go_wp2_with fail
  generalize w4.alloc (.cells #[.int .i64 N3, .string A, .string B, .string C, .string D] 28) = v4 at *
  generalize w4.heap.size = B4 at *
  clear q1 q2
  refine ((HD.out _).2).mono ?_
  rintro e w5 ⟨rfl, hbq⟩
  have hst := below_trans' hbq hbq.size ((Below.refl w5.heap.size w5).alloc (Nat.le_refl _) (.cells #[.int .i64 N3, .string A, .string B, .string C, .string D] 28))
  have t5 := heap_alloc_new w5 (.cells #[.int .i64 N3, .string A, .string B, .string C, .string D] 28)
  replace t1 := blk_below hst t1
  replace t2 := blk_below hst t2
  replace t3 := blk_below hst t3
  replace t4 := blk_below hst t4
  replace hbr := below_trans' hbr hbr.size hst
  clear hst hbq
  have q4 := cells5 t4
  have q3 := cells2 t3
  go_wp2_with fail
  generalize w5.alloc (.cells #[.int .i64 N3, .string A, .string B, .string C, .string D] 28) = v5 at *
  generalize w5.heap.size = B5 at *
  clear q4 q3
  refine ((HBd.out _).1).mono ?_
  rintro e w6 ⟨rfl, hbq⟩
  have hst := below_trans' hbq hbq.size ((Below.refl w6.heap.size w6).alloc (Nat.le_refl _) (.cells #[.int .i64 lo, .int .i64 hi] 36))
  have t6 := heap_alloc_new w6 (.cells #[.int .i64 lo, .int .i64 hi] 36)
  replace t1 := blk_below hst t1
  replace t2 := blk_below hst t2
  replace t3 := blk_below hst t3
  replace t4 := blk_below hst t4
  replace t5 := blk_below hst t5
  replace hbr := below_trans' hbr hbr.size hst
  clear hst hbq
  have q5 := cells5 t5
  have q3 := cells2 t3
  go_wp2_with fail
  generalize w6.alloc (.cells #[.int .i64 lo, .int .i64 hi] 36) = v6 at *
  generalize w6.heap.size = B6 at *
  clear q5 q3
  refine ((HBd.out _).2).mono ?_
  rintro e w7 ⟨rfl, hbq⟩
  have hst := below_trans' hbq hbq.size ((Below.refl w7.heap.size w7).alloc (Nat.le_refl _) (.cells #[.int .i64 lo, .int .i64 hi] 36))
  have t7 := heap_alloc_new w7 (.cells #[.int .i64 lo, .int .i64 hi] 36)
  replace t1 := blk_below hst t1
  replace t2 := blk_below hst t2
  replace t3 := blk_below hst t3
  replace t4 := blk_below hst t4
  replace t5 := blk_below hst t5
  replace t6 := blk_below hst t6
  replace hbr := below_trans' hbr hbr.size hst
  clear hst hbq
  have HLT := Lib.hid (lt_of_blk t6)
  have m1 := cells5 t4
  have m2 := cells5 t5
  have m3 := cells2i t6
  have m4 := cells2i t7
  clear t1 t2 t3 t4 t5 t6 t7
  go_wp2_with fail
  generalize w7.alloc (.cells #[.int .i64 lo, .int .i64 hi] 36) = v7 at *
  refine (scale20 A B 4294967296 _ SD.out.1 SD.out.2.1 (by decide) (by decide)).mono ?_
  rintro e w8 ⟨he, hb8⟩
  have hbe := below_trans' hbr hbr.size hb8
  have n3 : w8.cell? ⟨B6, 0, none⟩ = some (.int .i64 lo) ∧ w8.cell? ⟨B6, 1, none⟩ = some (.int .i64 hi) := by
    have hlt := HLT.out
    exact ⟨by rw [hb8.cell (by show B6 < _; exact hlt)]; exact m3.1, by rw [hb8.cell (by show B6 < _; exact hlt)]; exact m3.2⟩
  clear m1 m2 m3 m4 hbr hb8 HLT
  cases ok4 with
  | false =>
    obtain ⟨p, q, o, hr⟩ : ∃ p q o, scV (scaleT (A.data.toList, B.data.toList) 4294967296) = .tuple #[.int .i64 p, .int .i64 q, .bool o] := by
      cases scaleT (A.data.toList, B.data.toList) 4294967296 with
      | none => exact ⟨_, _, _, rfl⟩
      | some p => exact ⟨_, _, _, rfl⟩
    rw [hr] at he
    subst he
    clear hr
    go_wp2_with fail
    go_ret
    exact ⟨rfl, hbe⟩
  | true =>
    obtain ⟨p, q, hpq, h1, h2⟩ := band_mean (HB.out rfl)
    unfold ofI at hpq
    rw [hpq] at he
    replace he : e = .returned (.tuple #[.int .i64 p, .int .i64 q, .bool true]) := he
    subst he
    clear hpq
    have h1d : decide (lo ≤ p) = true := decide_eq_true h1
    have h2d : decide (q ≤ hi) = true := decide_eq_true h2
    go_wp2_with fail
    go_ret
    exact ⟨rfl, hbe⟩
end Go.Proofs.YtpligjkbnlfhgaaGreatDoor
