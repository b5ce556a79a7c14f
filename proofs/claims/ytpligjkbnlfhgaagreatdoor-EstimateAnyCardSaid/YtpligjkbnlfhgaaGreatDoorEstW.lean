/- The fractions of the laws of chapter 38, and its sanity check. No statement is proved here. -/
import Derived.Test.YtpligjkbnlfhgaaGreatDoorEstS
namespace Go.Proofs.YtpligjkbnlfhgaaGreatDoor
open Go.RowKit

/-- A call that gives this fraction and makes memory (no receiver). -/
theorem frac37 {a b : Int} (hb : b ≠ 0) (ha1 : -9223372036854775808 ≤ a) (ha2 : a ≤ 9223372036854775807) (hb1 : -9223372036854775808 ≤ b) (hb2 : b ≤ 9223372036854775807) (hf : fitsR (frQ a b)) :
    ∃ A B, Tx A B (frQ a b) ∧ Gives 9 #[.int .i64 a, .int .i64 b] A B := by
  obtain ⟨A, B, h1, h2⟩ := txV_tx hf
  refine ⟨A, B, h2, fun w => ?_⟩
  have hof := fun w => of22 a b w ha1 ha2 hb1 hb2
  have e : ofT a b = wrR (frQ a b) := by
    rcases Int.lt_or_gt_of_ne ‹b ≠ 0› with h | h
    · exact ofT_fr_neg h
    · exact ofT_fr h
  rw [e, h1] at hof
  have HO := Lib.hid hof
  have hb0 : (b == 0) = false := by rw [beq_eq_false_iff_ne]; exact hb
  have g0 := heap_alloc_new w (.cells #[.string ⟨#[]⟩, .string ⟨#[]⟩] 26)
  have hbW : Below w.heap.size w (w.alloc (.cells #[.string ⟨#[]⟩, .string ⟨#[]⟩] 26)) := (Below.refl _ _).alloc (Nat.le_refl _) _
  clear hof e h1
  go_enter Tryz.func9, Tryz.ntmps9
  go_wp2_with fail
  generalize w.alloc (.cells #[.string ⟨#[]⟩, .string ⟨#[]⟩] 26) = W at *
  refine (HO.out W).mono ?_
  rintro e w1 ⟨rfl, hb1⟩
  have hst := below_trans' hb1 hb1.size ((Below.refl w1.heap.size w1).alloc (Nat.le_refl _) (.cells #[.string A, .string B] 26))
  have G0 := blk_below hst g0
  have z0 := free_of_block G0
  have z1 := cells2 G0
  have y2 := cells2 (heap_alloc_new w1 (.cells #[.string A, .string B] 26))
  have hB := below_trans' hbW hbW.size hst
  go_wp2_with fail
  obtain ⟨t0, t1⟩ := ret2 (A := A) (B := B) G0
  have hbe := below_sets2 hB (Nat.le_refl _) (.string A) (.string B)
  exact bodyPost_ret (v := .agg #[.string A, .string B]) (by simp [results, Tryz.results9, go_sem, t0, t1]) rfl ⟨rfl, hbe⟩

/-- A literal list. -/
def litF (L : List Int) : Nat → Int := fun i => L.getD i 0
theorem ints_lit {w : World} {g : Nat} {L : List Int} {t : TypeId} (h : w.heap[g]? = some (.cells (L.map (Value.int .i64)).toArray t (0, 0))) (hL : L.length ≤ 100) : IntsV w (some ⟨g, 0, none⟩) L.length L.length (litF L) :=
  ⟨fun _ => ⟨g, 0, rfl, lt_of_blk h, fun i hi => by
    rw [Nat.zero_add, cell_of_block h i]
    simp [litF, hi]⟩, Nat.le_refl _, by unfold maxLen; omega⟩
theorem lit_fit {L : List Int} (hL : L.length ≤ 512) (h : ∀ x ∈ L, -1048576 ≤ x ∧ x ≤ 1048576) : Fit (litF L) L.length := ⟨hL, fun i hi => by
  unfold litF
  rw [List.getD_eq_getElem?_getD, List.getElem?_eq_getElem hi]
  exact h _ (List.getElem_mem hi)⟩

theorem aw_var : varQ (litF [1, 2, 3]) 3 = frQ 1 3 := by decide +kernel
theorem aw_rat : frQ (sumF (litF [1, 3]) 2) (sumF (litF [1, 1]) 2) = frQ 2 1 ∧ ratV (litF [1, 3]) (litF [1, 1]) 2 = frQ 1 1 := by decide +kernel
theorem aw_adj : adjM (litF [1, 4]) (litF [1, 4]) 2 0 = 0 ∧ adjV (litF [1, 4]) (litF [1, 4]) 2 = 0 := by decide +kernel
theorem tx_13 : Tx ⟨#[49]⟩ ⟨#[51]⟩ (frQ 1 3) := by
  refine ⟨(E2.of_int (a := 0) (b := 2) (by decide) (by decide) (by decide)).fits (by decide) (by decide), ?_⟩
  unfold txt
  have h1 : (frQ 1 3).num = 1 := by decide +kernel
  have h2 : (frQ 1 3).den = 3 := by decide +kernel
  rw [h1, h2]
  have e3 : decT 3 = [51] := by unfold decT; rfl
  have e2 : decT (1 : Int).natAbs = [49] := by unfold decT; rfl
  rw [e3, e2]; rfl
theorem tx_11 : Tx ⟨#[49]⟩ ⟨#[49]⟩ (frQ 1 1) := by
  refine ⟨(E2.of_int (a := 0) (b := 2) (by decide) (by decide) (by decide)).fits (by decide) (by decide), ?_⟩
  unfold txt
  have h1 : (frQ 1 1).num = 1 := by decide +kernel
  have h2 : (frQ 1 1).den = 1 := by decide +kernel
  rw [h1, h2]
  have e2 : decT 1 = [49] := by unfold decT; rfl
  have e3 : decT (1 : Int).natAbs = [49] := e2
  rw [e3, e2]; rfl
theorem tx_0 : Tx ⟨#[48]⟩ ⟨#[49]⟩ 0 := by
  refine ⟨⟨by decide +kernel, by decide +kernel⟩, ?_⟩
  unfold txt
  have h1 : (0 : Rat).num.natAbs = 0 := rfl
  have h2 : (0 : Rat).den = 1 := rfl
  rw [h1, h2]
  have e3 : decT 0 = [48] := by unfold decT; rfl
  have e2 : decT 1 = [49] := by unfold decT; rfl
  rw [e3, e2]; rfl

theorem ints3 (w : World) (a b c : Int) : IntsV (w.alloc (.cells #[.int .i64 a, .int .i64 b, .int .i64 c] 3)) (some ⟨w.heap.size, 0, none⟩) 3 3 (litF [a, b, c]) := ints_lit (L := [a, b, c]) (heap_alloc_new w _) (by simp)
theorem ints2 {w : World} {g : Nat} {a b : Int} (h : w.heap[g]? = some (.cells #[.int .i64 a, .int .i64 b] 3 (0, 0))) : IntsV w (some ⟨g, 0, none⟩) 2 2 (litF [a, b]) := ints_lit (L := [a, b]) h (by simp)

set_option maxRecDepth 100000 in
set_option maxHeartbeats 8000000 in
theorem awake35 (w : World) : Calls Tryz.prog 6 #[] w fun e w' => e = .returned (.bool true) ∧ Below w.heap.size w w' := by
  have f1 : Fit (litF [1, 2, 3]) 3 := lit_fit (L := [1, 2, 3]) (by decide) (by decide)
  have f2 : Fit (litF [1, 3]) 2 := lit_fit (L := [1, 3]) (by decide) (by decide)
  have f3 : Fit (litF [1, 1]) 2 := lit_fit (L := [1, 1]) (by decide) (by decide)
  have f4 : Fit (litF [1, 4]) 2 := lit_fit (L := [1, 4]) (by decide) (by decide)
  obtain ⟨X, Y, -, TX⟩ := txV_tx ((mean_E2 f1 (by decide)).fits (by decide) (by decide))
  have TU : Tx ⟨#[49]⟩ ⟨#[51]⟩ (varQ (litF [1, 2, 3]) 3) := by rw [aw_var]; exact tx_13
  obtain ⟨R1, R2, -, TR⟩ := txV_tx ((ratR_E2 f2 f3 (by decide)).fits (by decide) (by decide))
  have TV : Tx ⟨#[49]⟩ ⟨#[49]⟩ (ratV (litF [1, 3]) (litF [1, 1]) 2) := by rw [aw_rat.2]; exact tx_11
  have TM : Tx ⟨#[48]⟩ ⟨#[49]⟩ (adjM (litF [1, 4]) (litF [1, 4]) 2 0) := by rw [aw_adj.1]; exact tx_0
  have TW : Tx ⟨#[48]⟩ ⟨#[49]⟩ (adjV (litF [1, 4]) (litF [1, 4]) 2) := by rw [aw_adj.2]; exact tx_0
  have C1 : Hid (∀ w : World, Calls Tryz.prog 24 #[.slice (some ⟨w.heap.size, 0, none⟩) 3 3] (w.alloc (.cells #[.int .i64 1, .int .i64 2, .int .i64 3] 3)) fun e w' => e = .returned (.tuple #[estV 3 X Y ⟨#[49]⟩ ⟨#[51]⟩, .bool true]) ∧ Below (w.alloc (.cells #[.int .i64 1, .int .i64 2, .int .i64 3] 3)).heap.size (w.alloc (.cells #[.int .i64 1, .int .i64 2, .int .i64 3] 3)) w') :=
    Lib.hid fun w => of36 _ 3 3 (litF [1, 2, 3]) X Y _ _ _ (ints3 w 1 2 3) f1 (by decide) TX TU
  have C2 : Hid (∀ (w : World) (g h : Nat), w.heap[g]? = some (.cells #[.int .i64 1, .int .i64 3] 3 (0, 0)) → w.heap[h]? = some (.cells #[.int .i64 1, .int .i64 1] 3 (0, 0)) → Calls Tryz.prog 19 #[.slice (some ⟨g, 0, none⟩) 2 2, .slice (some ⟨h, 0, none⟩) 2 2] w fun e w' => e = .returned (.tuple #[estV 2 R1 R2 ⟨#[49]⟩ ⟨#[49]⟩, .bool true]) ∧ Below w.heap.size w w') :=
    Lib.hid fun w g h hg hh => ratio45 _ _ 2 2 2 (litF [1, 3]) (litF [1, 1]) R1 R2 _ _ w (ints2 hg) (ints2 hh) f2 f3 (by decide) (by decide) TR TV
  have C3 : Hid (∀ (w : World) (g h : Nat), w.heap[g]? = some (.cells #[.int .i64 1, .int .i64 4] 3 (0, 0)) → w.heap[h]? = some (.cells #[.int .i64 1, .int .i64 4] 3 (0, 0)) → Calls Tryz.prog 21 #[.slice (some ⟨g, 0, none⟩) 2 2, .slice (some ⟨h, 0, none⟩) 2 2, .agg #[.string ⟨#[48]⟩, .string ⟨#[49]⟩]] w fun e w' => e = .returned (.tuple #[estV 2 ⟨#[48]⟩ ⟨#[49]⟩ ⟨#[48]⟩ ⟨#[49]⟩, .bool true]) ∧ Below w.heap.size w w') :=
    Lib.hid fun w g h hg hh => adjusted46 _ _ 2 2 2 (litF [1, 4]) (litF [1, 4]) 0 _ _ _ _ _ _ w (ints2 hg) (ints2 hh) f4 f4 (by decide) tx_0 (by decide) (by decide) TM TW
  clear f1 f2 f3 f4 TX TU TR TV TM TW
  go_enter Tryz.func6, Tryz.ntmps6
  go_wp2_with fail
  refine (C1.out w).mono ?_
  rintro e w1 ⟨rfl, hb1⟩
  have b1 := below_trans' ((Below.refl w.heap.size w).alloc (Nat.le_refl _) (.cells #[.int .i64 1, .int .i64 2, .int .i64 3] 3)) (by simp) hb1
  have g1 := heap_alloc_new w1 (.cells #[.int .i64 3, .string X, .string Y, .string ⟨#[49]⟩, .string ⟨#[51]⟩] 28)
  have a1 : Below w1.heap.size w1 (w1.alloc (.cells #[.int .i64 3, .string X, .string Y, .string ⟨#[49]⟩, .string ⟨#[51]⟩] 28)) := (Below.refl _ _).alloc (Nat.le_refl _) _
  replace b1 := below_trans' b1 b1.size a1
  clear a1 hb1
  go_wp2_with fail
  have hv1 : (w1.alloc (.cells #[.int .i64 3, .string X, .string Y, .string ⟨#[49]⟩, .string ⟨#[51]⟩] 28)).heap.size = w1.heap.size + 1 := by simp
  generalize w1.alloc (.cells #[.int .i64 3, .string X, .string Y, .string ⟨#[49]⟩, .string ⟨#[51]⟩] 28) = v1 at *
  generalize w1.heap.size = N1 at *
  obtain ⟨a2, p1, p2⟩ := allocs2' v1 #[.int .i64 1, .int .i64 3] #[.int .i64 1, .int .i64 1] 3 3
  rw [hv1] at p1 p2
  clear hv1
  with_reducible refine (C2.out _ _ _ p1 p2).mono ?_
  rintro e w2 ⟨rfl, hb2⟩
  replace a2 := below_trans' a2 a2.size hb2
  have g2 := heap_alloc_new w2 (.cells #[.int .i64 2, .string R1, .string R2, .string ⟨#[49]⟩, .string ⟨#[49]⟩] 28)
  have a3 : Below w2.heap.size w2 (w2.alloc (.cells #[.int .i64 2, .string R1, .string R2, .string ⟨#[49]⟩, .string ⟨#[49]⟩] 28)) := (Below.refl _ _).alloc (Nat.le_refl _) _
  replace a2 := below_trans' a2 a2.size a3
  replace g1 := blk_below a2 g1
  replace b1 := below_trans' b1 b1.size a2
  clear a2 a3 hb2 p1 p2
  go_wp2_with fail
  have hv2 : (w2.alloc (.cells #[.int .i64 2, .string R1, .string R2, .string ⟨#[49]⟩, .string ⟨#[49]⟩] 28)).heap.size = w2.heap.size + 1 := by simp
  generalize w2.alloc (.cells #[.int .i64 2, .string R1, .string R2, .string ⟨#[49]⟩, .string ⟨#[49]⟩] 28) = v2 at *
  generalize w2.heap.size = N2 at *
  obtain ⟨a4, p1, p2⟩ := allocs2' v2 #[.int .i64 1, .int .i64 4] #[.int .i64 1, .int .i64 4] 3 3
  rw [hv2] at p1 p2
  clear hv2
  with_reducible refine (C3.out _ _ _ p1 p2).mono ?_
  rintro e w3 ⟨rfl, hb3⟩
  replace a4 := below_trans' a4 a4.size hb3
  obtain ⟨a5, g3, g4⟩ := allocs2' w3 #[.int .i64 2, .string ⟨#[48]⟩, .string ⟨#[49]⟩, .string ⟨#[48]⟩, .string ⟨#[49]⟩] #[.string ⟨#[49]⟩, .string ⟨#[49]⟩] 28 26
  replace a4 := below_trans' a4 a4.size a5
  replace g1 := blk_below a4 g1
  replace g2 := blk_below a4 g2
  replace b1 := below_trans' b1 b1.size a4
  clear a4 a5 hb3 p1 p2
  have k1 := cells5 g1
  have k2 := cells5 g2
  have k3 := cells5 g3
  have k4 := cells2 g4
  clear g1 g2 g3 g4
  go_wp2_with fail
  go_ret
  exact ⟨rfl, b1⟩
end Go.Proofs.YtpligjkbnlfhgaaGreatDoor
