/- The fractions' outer functions, the program's. -/
import Derived.Test.YtpligjkbnlfhgaaGreatDoorFrE
import Derived.Test.YtpligjkbnlfhgaaGreatDoorPl
namespace Go.Proofs.YtpligjkbnlfhgaaGreatDoor
open Go.RowKit

set_option maxRecDepth 100000 in
set_option maxHeartbeats 4000000 in
theorem valid23 (N D : ByteArray) (w : World) (hN : N.size ≤ maxLen) (hD : D.size ≤ maxLen) :
    Calls Tryz.prog 66 #[.agg #[.string N, .string D]] w fun e w' => e = .returned (.bool (formB N.data.toList D.data.toList)) ∧ Below w.heap.size w w' := by
  have g0 := heap_alloc_new w (.cells #[.string N, .string D] 26)
  have hbW : Below w.heap.size w (w.alloc (.cells #[.string N, .string D] 26)) := (Below.refl _ _).alloc (Nat.le_refl _) _
  have k0 := cells2 g0
  go_enter Tryz.func66, Tryz.ntmps66
  go_wp2_with fail
  generalize (w.alloc (.cells #[.string N, .string D] 26)) = W at *
  refine (read59 N D W hN hD).mono ?_
  rintro e w1 ⟨f, rfl, ⟨s, n, d, ⟨p, q, rfl, hp, hq⟩, -⟩, hb⟩
  obtain ⟨A1, n1, c1, rfl, -⟩ := NatV.shape (by omega) hp
  obtain ⟨A2, n2, c2, rfl, -⟩ := NatV.shape (by omega) hq
  have hbe := (below_trans' hbW hbW.size hb).alloc (below_trans' hbW hbW.size hb).size (.cells #[.bool s, .slice A1 n1 c1, .slice A2 n2 c2] 116)
  obtain ⟨c, hc⟩ : ∃ c, formB N.data.toList D.data.toList = c := ⟨_, rfl⟩
  rw [hc]
  have HC := Lib.hid hc
  clear hc k0 hp hq
  go_wp2_with fail
  go_ret
  exact ⟨congrArg (fun c => Ending.returned (.bool c)) HC.out.symm, hbe⟩
/-- The absolute value of a number. -/
theorem abs71 (x : Int) (w : World) (h1 : -9223372036854775808 ≤ x) (h2 : x ≤ 9223372036854775807) :
    Calls Tryz.prog 96 #[.int .i64 x] w fun e w' => e = .returned (.int .u64 (x.natAbs : Nat)) ∧ w' = w := by
  by_cases h : x < 0
  · have e1 : IntKind.u64.wrap (-IntKind.u64.wrap x) = (x.natAbs : Int) := by rw [IntKind.wrap_u64, IntKind.wrap_u64]; omega
    go_enter Tryz.func96, Tryz.ntmps96
    go_wp2_with fail
    go_ret
    exact ⟨rfl, rfl⟩
  · have e1 : x = (x.natAbs : Int) := by omega
    have E1 := Lib.hid e1
    clear e1
    go_enter Tryz.func96, Tryz.ntmps96
    go_wp2_with fail
    go_ret
    exact ⟨congrArg (fun y => Ending.returned (.int .u64 y)) E1.out, rfl⟩

set_option maxRecDepth 100000 in
set_option maxHeartbeats 4000000 in
theorem of21 (num den : Int) (w : World) (h1 : -9223372036854775808 ≤ num) (h2 : num ≤ 9223372036854775807) (h3 : -9223372036854775808 ≤ den) (h4 : den ≤ 9223372036854775807) :
    Calls Tryz.prog 55 #[.int .i64 num, .int .i64 den] w fun e w' => e = .returned (txV (ofT num den)) ∧ Below w.heap.size w w' := by
  obtain ⟨R, hR⟩ : ∃ R, ofT num den = R := ⟨_, rfl⟩
  rw [hR]
  have HR := Lib.hid hR
  clear hR
  have g0 := heap_alloc_new w (.cells #[.string ⟨#[]⟩, .string ⟨#[]⟩] 26)
  have hbW : Below w.heap.size w (w.alloc (.cells #[.string ⟨#[]⟩, .string ⟨#[]⟩] 26)) := (Below.refl _ _).alloc (Nat.le_refl _) _
  have k0 := cells2 g0
  have f0 := free_of_block g0
  by_cases hd : den = 0
  · subst hd
    have hR0 : R = none := by rw [← HR.out]; rfl
    subst hR0
    go_enter Tryz.func55, Tryz.ntmps55
    go_wp2_with fail
    exact bodyPost_ret (v := .tuple #[.agg #[.string ⟨#[]⟩, .string ⟨#[]⟩], .bool false]) (by simp [results, Tryz.results55, go_sem]) rfl ⟨rfl, hbW⟩
  · have hR0 : R = wrR (ratP (decide (num < 0) != decide (den < 0)) num.natAbs den.natAbs) := by rw [← HR.out]; unfold ofT; rw [if_neg hd]
    have hdn : den.natAbs ≠ 0 := by omega
    have sm : ∀ x : Int, -9223372036854775808 ≤ x → x ≤ 9223372036854775807 → Sm 70 x.natAbs := fun x a b => by
      unfold Sm
      exact Nat.lt_of_le_of_lt (show x.natAbs ≤ 9223372036854775808 by omega) (by decide)
    obtain ⟨sn, hsn⟩ : ∃ c, decide (num < 0) = c := ⟨_, rfl⟩
    obtain ⟨sd, hsd⟩ : ∃ c, decide (den < 0) = c := ⟨_, rfl⟩
    rw [hsn, hsd] at hR0
    have HR0 := Lib.hid hR0
    have hdI : (den == 0) = false := by rw [beq_eq_false_iff_ne]; exact hd
    clear hR0
    have SM := Lib.hid sm
    clear sm hd
    go_enter Tryz.func55, Tryz.ntmps55
    go_wp2_with fail
    generalize w.alloc (.cells #[.string ⟨#[]⟩, .string ⟨#[]⟩] 26) = W at *
    have hWs : w.heap.size < W.heap.size := lt_of_blk g0
    refine (abs71 num W h1 h2).mono ?_
    rintro e _ ⟨rfl, rfl⟩
    clear k0
    go_wp2_with fail
    refine (natOf62 num.natAbs _ (by omega)).mono ?_
    rintro e w1 ⟨v1, rfl, hv1, hb1⟩
    obtain ⟨A1, n1, c1, rfl, -⟩ := NatV.shape (by omega) hv1
    go_wp2_with fail
    refine (abs71 den w1 h3 h4).mono ?_
    rintro e _ ⟨rfl, rfl⟩
    go_wp2_with fail
    refine (natOf62 den.natAbs _ (by omega)).mono ?_
    rintro e w2 ⟨v2, rfl, hv2, hb2⟩
    obtain ⟨A2, n2, c2, rfl, -⟩ := NatV.shape (by omega) hv2
    have hv1' := hv1.below hb2
    go_wp2_with fail
    refine (write70 70 _ (!sn == sd) num.natAbs den.natAbs _ (by decide) (by decide) (SM.out _ h1 h2) (SM.out _ h3 h4) hdn ⟨_, _, rfl, hv1', hv2⟩).mono ?_
    rintro e w3 ⟨rfl, hb3⟩
    have hB3 := below_trans' (below_trans' hb1 hb1.size hb2) (below_trans' hb1 hb1.size hb2).size hb3
    have g3 := blk_below hB3 g0
    have k3 := cells2 g3
    have f3 := free_of_block g3
    clear hv1 hv2 hv1' hb1 hb2 hb3 f0
    have hRR : wrR (ratP (!sn == sd) num.natAbs den.natAbs) = R := by rw [HR0.out]; cases sn <;> cases sd <;> rfl
    rw [hRR]
    clear hRR
    obtain ⟨A, B, ok, hAB, hbad⟩ : ∃ A B ok, txV R = .tuple #[.agg #[.string A, .string B], .bool ok] ∧ True := by
      cases R with
      | none => exact ⟨_, _, _, rfl, trivial⟩
      | some r => exact ⟨_, _, _, rfl, trivial⟩
    rw [hAB]
    go_wp2_with fail
    obtain ⟨y0, y1⟩ := ret2 (A := A) (B := B) g3
    have hbe := below_sets2 (below_trans' hbW hbW.size hB3) (Nat.le_refl _) (.string A) (.string B)
    generalize ((w3.setCell ⟨w.heap.size, 0, none⟩ (.string A)).setCell ⟨w.heap.size, 1, none⟩ (.string B)) = W3 at y0 y1 hbe ⊢
    exact bodyPost_ret (v := .tuple #[.agg #[.string A, .string B], .bool ok]) (by simp [results, Tryz.results55, go_sem, y0, y1]) rfl ⟨by rw [hAB], hbe⟩
end Go.Proofs.YtpligjkbnlfhgaaGreatDoor
