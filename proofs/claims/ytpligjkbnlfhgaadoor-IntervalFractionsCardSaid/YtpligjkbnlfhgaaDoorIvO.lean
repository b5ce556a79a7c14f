/- Intervals of a fraction, both texts. -/
import Derived.Test.YtpligjkbnlfhgaaDoorScB
import Derived.Test.YtpligjkbnlfhgaaDoorIv3
namespace Go.Proofs.YtpligjkbnlfhgaaDoor
open Go.RowKit

/-- The ends of a multiple are next to each other. -/
theorem scale_next {t : Txt} {u a b : Int} (h : scaleT t u = some (a, b)) : -2305843009213693952 ≤ a ∧ a ≤ b ∧ b ≤ 2305843009213693952 ∧ (b - a = 0 ∨ b - a = 1) := by
  unfold scaleT at h
  cases e : rdR t with
  | none => rw [e] at h; cases h
  | some x =>
    rw [e] at h
    simp only at h
    by_cases hu : u < 1
    · rw [if_pos hu] at h; cases h
    · rw [if_neg hu, scale_parts] at h
      by_cases h0 : x.num.natAbs * u.toNat % x.den = 0
      · rw [if_pos h0] at h
        generalize x.num.natAbs * u.toNat / x.den = q at h
        by_cases hg : 2305843009213693952 < q
        · rw [if_pos hg] at h; cases h
        · rw [if_neg hg] at h
          by_cases hs : x.num < 0
          · rw [if_pos hs] at h
            simp only [Option.some.injEq, Prod.mk.injEq] at h
            omega
          · rw [if_neg hs] at h
            simp only [Option.some.injEq, Prod.mk.injEq] at h
            omega
      · rw [if_neg h0] at h
        generalize x.num.natAbs * u.toNat / x.den = q at h
        by_cases hg : 2305843009213693952 < q + 1
        · rw [if_pos hg] at h; cases h
        · rw [if_neg hg] at h
          by_cases hs : x.num < 0
          · rw [if_pos hs] at h
            simp only [Option.some.injEq, Prod.mk.injEq] at h
            omega
          · rw [if_neg hs] at h
            simp only [Option.some.injEq, Prod.mk.injEq] at h
            omega
/-- The interval of a fraction. -/
noncomputable def ofI (t : Txt) : IR := scaleT t 4294967296
theorem mk_next {t : Txt} {a b : Int} (h : ofI t = some (a, b)) : mkI a b = some (a, b) := by
  have := scale_next h
  rw [mkI, if_pos (inI_iff.2 (by omega))]
theorem cells2i {w : World} {g : Nat} {x y : Value} {t : TypeId} (h : w.heap[g]? = some (.cells #[x, y] t (0, 0))) : w.cell? ⟨g, 0, none⟩ = some x ∧ w.cell? ⟨g, 1, none⟩ = some y := ⟨cell_of_block h 0, cell_of_block h 1⟩
theorem ret2i {wv : World} {z : Nat} {a b A B : Int} (hg : wv.heap[z]? = some (.cells #[.int .i64 a, .int .i64 b] 69 (0, 0))) :
    ((wv.setCell ⟨z, 0, none⟩ (.int .i64 A)).setCell ⟨z, 1, none⟩ (.int .i64 B)).cell? ⟨z, 0, none⟩ = some (.int .i64 A) ∧ ((wv.setCell ⟨z, 0, none⟩ (.int .i64 A)).setCell ⟨z, 1, none⟩ (.int .i64 B)).cell? ⟨z, 1, none⟩ = some (.int .i64 B) :=
  cells2i (block_set (block_set hg 0 _) 1 _)

set_option maxRecDepth 100000 in
set_option maxHeartbeats 2000000 in
theorem of49 (N D : ByteArray) (w : World) (hN : N.size ≤ maxLen) (hD : D.size ≤ maxLen) :
    Calls Tryd.prog 49 #[.agg #[.string N, .string D]] w fun e w' => e = .returned (resV (ofI (N.data.toList, D.data.toList))) ∧ Below w.heap.size w w' := by
  obtain ⟨R, hR⟩ : ∃ R, ofI (N.data.toList, D.data.toList) = R := ⟨_, rfl⟩
  have hmk := fun a b => mk_next (t := (N.data.toList, D.data.toList)) (a := a) (b := b)
  have hsc := fun w => scale19 N D 4294967296 w hN hD (by decide) (by decide)
  have e : scaleT (N.data.toList, D.data.toList) 4294967296 = R := hR
  rw [e] at hsc
  rw [hR] at hmk ⊢
  obtain ⟨hbW, g0, g1⟩ := allocs2' w #[.string N, .string D] #[.int .i64 0, .int .i64 0] 23 69
  have k0 := cells2 g0
  clear e hR
  cases R with
  | none =>
    have HSC : Hid (∀ w, Calls Tryd.prog 19 #[.agg #[.string N, .string D], .int .i64 4294967296] w fun e w' => e = .returned (.tuple #[.int .i64 0, .int .i64 0, .bool false]) ∧ Below w.heap.size w w') := Lib.hid hsc
    clear hsc hmk
    go_enter Tryd.func49, Tryd.ntmps49
    go_wp2_with fail
    refine (HSC.out _).mono ?_
    rintro e w1 ⟨rfl, hb1⟩
    have hB := below_trans' hbW hbW.size hb1
    have h1 := blk_below hb1 g1
    have z1 := cells2i h1
    have f1 := free_of_block h1
    obtain ⟨y0, y1⟩ := ret2i (A := 0) (B := 0) h1
    have hbe := below_sets2 hB (show w.heap.size ≤ w.heap.size + 1 by omega) (.int .i64 0) (.int .i64 0)
    clear k0 g0 g1 hB h1
    go_wp2_with fail
    exact bodyPost_ret (v := .tuple #[.agg #[.int .i64 0, .int .i64 0], .bool false]) (by simp [results, Tryd.results49, go_sem, y0, y1]) rfl ⟨rfl, hbe⟩
  | some r =>
    obtain ⟨a, b⟩ := r
    have HSC : Hid (∀ w, Calls Tryd.prog 19 #[.agg #[.string N, .string D], .int .i64 4294967296] w fun e w' => e = .returned (.tuple #[.int .i64 a, .int .i64 b, .bool true]) ∧ Below w.heap.size w w') := Lib.hid hsc
    have hm := hmk a b rfl
    have hmd := fun w => made21 a b w
    rw [hm] at hmd
    have HMD : Hid (∀ w, Calls Tryd.prog 99 #[.int .i64 a, .int .i64 b] w fun e w' => e = .returned (.tuple #[.agg #[.int .i64 a, .int .i64 b], .bool true]) ∧ Below w.heap.size w w') := Lib.hid hmd
    clear hsc hmk hm hmd
    go_enter Tryd.func49, Tryd.ntmps49
    go_wp2_with fail
    refine (HSC.out _).mono ?_
    rintro e w1 ⟨rfl, hb1⟩
    have hB := below_trans' hbW hbW.size hb1
    clear k0
    go_wp2_with fail
    refine (HMD.out _).mono ?_
    rintro e w2 ⟨rfl, hb2⟩
    have hB2 := below_trans' hB hB.size hb2
    have h1 := blk_below hb2 (blk_below hb1 g1)
    have z1 := cells2i h1
    have f1 := free_of_block h1
    obtain ⟨y0, y1⟩ := ret2i (A := a) (B := b) h1
    have hbe := below_sets2 hB2 (show w.heap.size ≤ w.heap.size + 1 by omega) (.int .i64 a) (.int .i64 b)
    clear g0 g1 hB h1
    go_wp2_with fail
    exact bodyPost_ret (v := .tuple #[.agg #[.int .i64 a, .int .i64 b], .bool true]) (by simp [results, Tryd.results49, go_sem, y0, y1]) rfl ⟨rfl, hbe⟩

set_option maxRecDepth 100000 in
set_option maxHeartbeats 2000000 in
theorem of50 (N D : ByteArray) (w : World) (hN : N.size ≤ maxLen) (hD : D.size ≤ maxLen) :
    Calls Tryd.prog 50 #[.agg #[.string N, .string D]] w fun e w' => e = .returned (resV (ofI (N.data.toList, D.data.toList))) ∧ Below w.heap.size w w' := by
  obtain ⟨R, hR⟩ : ∃ R, ofI (N.data.toList, D.data.toList) = R := ⟨_, rfl⟩
  have hsc := fun w => scale20 N D 4294967296 w hN hD (by decide) (by decide)
  have e : scaleT (N.data.toList, D.data.toList) 4294967296 = R := hR
  rw [e] at hsc
  rw [hR]
  obtain ⟨a, b, ok, hv, hr⟩ : ∃ a b ok, scV R = .tuple #[.int .i64 a, .int .i64 b, .bool ok] ∧ resV R = .tuple #[.agg #[.int .i64 a, .int .i64 b], .bool ok] := by
    cases R with
    | none => exact ⟨0, 0, false, rfl, rfl⟩
    | some r => exact ⟨r.1, r.2, true, rfl, rfl⟩
  rw [hv] at hsc
  rw [hr]
  have HSC := Lib.hid hsc
  obtain ⟨hbW, g0, g1⟩ := allocs2' w #[.string N, .string D] #[.int .i64 0, .int .i64 0] 23 69
  have k0 := cells2 g0
  clear e hR hsc hv hr
  go_enter Tryd.func50, Tryd.ntmps50
  go_wp2_with fail
  refine (HSC.out _).mono ?_
  rintro e w1 ⟨rfl, hb1⟩
  have hB := below_trans' hbW hbW.size hb1
  have h1 := blk_below hb1 g1
  have z1 := cells2i h1
  have f1 := free_of_block h1
  obtain ⟨y0, y1⟩ := ret2i (A := a) (B := b) h1
  have hbe := below_sets2 hB (show w.heap.size ≤ w.heap.size + 1 by omega) (.int .i64 a) (.int .i64 b)
  clear k0 g0 g1 hB h1
  go_wp2_with fail
  exact bodyPost_ret (v := .tuple #[.agg #[.int .i64 a, .int .i64 b], .bool ok]) (by simp [results, Tryd.results50, go_sem, y0, y1]) rfl ⟨rfl, hbe⟩
end Go.Proofs.YtpligjkbnlfhgaaDoor
