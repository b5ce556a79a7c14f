/- The walk of flagstonelaw42.BalanceFinds. -/
import Derived.Test.YtgonighpjpfmnaaBalAlarm
import Derived.Test.YtgonighpjpfmnaaAwake42
namespace Go.Proofs.Ytgonighpjpfmnaa
open Go.RowKit

def eF (a : Int) : Ev := ⟨⟨#[]⟩, ⟨#[]⟩, 0, 0, a, 1⟩
theorem rep_rows {w : World} {B k : Nat} {v : Value} {e : Ev} (h : Own Ev.cells 32 6 w B v (List.replicate k e)) : ∃ A cp, v = .slice A k cp ∧ k ≤ cp ∧ RowsAt w w.heap.size 6 A k (fun _ => e.cells) := by
  obtain ⟨A, cp, rfl, hcp⟩ := Own.shape h
  have hr := Own.rows Ev.len default h
  rw [List.length_replicate] at hr hcp ⊢
  refine ⟨A, cp, rfl, hcp, fun hn => ?_⟩
  obtain ⟨b, off, hA, hb, hc⟩ := hr hn
  refine ⟨b, off, hA, hb, fun i hi j u hu => hc i hi j u ?_⟩
  dsimp only
  rw [List.getD_eq_getElem?_getD, List.getElem?_replicate, if_pos hi]
  exact hu
theorem rows_less {w : World} {B size : Nat} {A : Option Addr} {n k : Nat} {f : Nat → List Value} (h : RowsAt w B size A n f) (hk : k ≤ n) : RowsAt w B size A k f := fun hn => by
  obtain ⟨b, off, hA, hb, hc⟩ := h (by omega)
  exact ⟨b, off, hA, hb, fun i hi j u hu => hc i (by omega) j u hu⟩
theorem rows_one {w : World} {g : Nat} {x : Wt} (h : w.heap[g]? = some (.cells #[.int .i64 x.ver, .int .i64 x.con, .int .i64 x.tre] 42 (0, 0))) : RowsAt w w.heap.size 3 (some ⟨g, 0, none⟩) 1 (fun _ => x.cells) := fun _ => by
  refine ⟨g, 0, rfl, lt_of_blk h, fun i hi j u hu => ?_⟩
  obtain rfl : i = 0 := by omega
  have hj : j < 3 := (List.getElem?_eq_some_iff.1 hu).1
  rw [cell_of_block h]
  rcases (show j = 0 ∨ j = 1 ∨ j = 2 by omega) with rfl | rfl | rfl <;> exact hu

set_option maxRecDepth 100000 in
set_option maxHeartbeats 4000000 in
theorem balanceFinds21 (a0 : Bool) (a1 : Int) (w : World) (w1 : (Lit.int .u8 a1).wf = true) :
    Calls Try.prog 21 #[.bool a0, .int .u8 a1] w fun e w' => e = .returned (.bool true) ∧ Below w.heap.size w w' := by
  have b1 := bounds_u8 w1
  clear w1
  obtain ⟨i0, hi, hz0, hz1, hz2⟩ := info_parts info32
  obtain ⟨N, hN⟩ : ∃ N : Nat, 12 + a1 % 20 = (N : Int) := ⟨(12 + a1 % 20).toNat, by omega⟩
  have hNb : 12 ≤ N ∧ N ≤ 31 := by omega
  cases a0
  · have hx8 : alarmF 1 50 N = 8 := by have h := find_all (N - 12) (by omega); rw [show 12 + (N - 12) = N by omega] at h; exact h.1
    have hx1 : alarmF 1 999 1 = 0 := find_one.1
    have hx7 : alarmF 1 50 7 = 0 := find_one.2.2.1
    have al65 := fun (A : Option Addr) (k cp : Nat) (GW : Nat) (lv : Int) (w' : World) (hk : k ≤ 31) (hR : RowsAt w' w'.heap.size 6 A k fun _ => (eF 1).cells) hW => alarm65 A k cp (xF 1) (some ⟨GW, 0, none⟩) 1 1 wF lv w' (by omega) (by omega) hR hW (fun i _ => by simp [xF])
    have AL := Lib.hid al65
    have HX8 := Lib.hid hx8
    have HX1 := Lib.hid hx1
    have HX7 := Lib.hid hx7
    clear al65 hx8 hx1 hx7
    go_enter Try.func21, Try.ntmps21
    go_wp2_with fail
    refine (awake51 w).mono ?_
    rintro en w1 ⟨rfl, hb1⟩
    go_upto_region 5 with fail
    go_loopg [5, 6, 7] N (fun mm s5 s6 s7 wr => ∃ k : Nat, k ≤ N ∧ mm = N - k ∧ s6 = .int .i64 k ∧ Own Ev.cells 32 6 wr w.heap.size s5 (List.replicate k (eF 1)) ∧ Below w.heap.size w wr)
    case atStart => exact ⟨0, by omega, by omega, rfl, Own.nil _ _ _ _ _, hb1⟩
    case round =>
      obtain ⟨k, hk, hmk, rfl, hown, hb⟩ := hrel
      have HMK := Lib.hid hmk
      clear hmk hb1
      by_cases hkN : k < N
      · have hkI : (k : Int) < N := by omega
        obtain ⟨A5, c5, rfl, hc5⟩ := Own.shape hown
        rw [List.length_replicate] at hown ⊢
        go_upto_region 10 with fail
        have gE2 := heap_alloc_new wr (.cells #[.string ⟨#[]⟩, .string ⟨#[]⟩, .int .i64 0, .int .i64 0, .int .i64 1, .int .i64 1] 32)
        have hq2 : Below wr.heap.size wr (wr.alloc (.cells #[.string ⟨#[]⟩, .string ⟨#[]⟩, .int .i64 0, .int .i64 0, .int .i64 1, .int .i64 1] 32)) := (Below.refl _ _).alloc (Nat.le_refl _) _
        generalize wr.alloc (.cells #[.string ⟨#[]⟩, .string ⟨#[]⟩, .int .i64 0, .int .i64 0, .int .i64 1, .int .i64 1] 32) = w2 at *
        replace hown : Own Ev.cells 32 6 w2 w.heap.size (.slice A5 k c5) (List.replicate k (eF 1)) := Own.below hown hq2
        replace hb := below_trans' hb hb.size hq2
        have y0 := cell_of_block gE2 0
        have y1 := cell_of_block gE2 1
        have y2 := cell_of_block gE2 2
        have y3 := cell_of_block gE2 3
        have y4 := cell_of_block gE2 4
        have y5 := cell_of_block gE2 5
        simp only [List.getElem?_toArray, List.getElem?_cons_zero, List.getElem?_cons_succ] at y0 y1 y2 y3 y4 y5
        have hown' : w2.ownsRow w.heap.size 32 6 (.slice A5 k c5) k ((List.replicate k (eF 1)).flatMap Ev.cells) := by have h := hown; unfold Own at h; rw [List.length_replicate] at h; exact h
        have HOW := Lib.hid hown'
        clear hown' hq2
        have hs2 := hb.size
        go_wp2_with (at_builtin; refine wpList_append_lies _ (by rfl) (.tmp 23) (.tmp 25) 82 (by rfl) w.heap.size 32 i0 _ 6 64 Try.underlying82 hi hz0 hz1 hz2 rfl (by omega) _ _ _ (by rfl) (World.ownsRow.alloc HOW.out _) ⟨w2.heap.size, 0, none⟩ 1 1 [.string ⟨#[]⟩, .string ⟨#[]⟩, .int .i64 0, .int .i64 0, .int .i64 1, .int .i64 1] (by rfl) (by rfl) (World.news_of_block (heap_alloc_new w2 (.cells #[.string ⟨#[]⟩, .string ⟨#[]⟩, .int .i64 0, .int .i64 0, .int .i64 1, .int .i64 1] 32))) (by simp [Value.oneCell']) (by omega) (by unfold maxLen; omega) (by omega) (by simp; omega) (w2.heap.size + 1) (by simp) ?_; intro g' cap' w6 hown6 hgrow hat hlt6)
        have hrow : ∀ q, (Value.slice A5 k c5).ownBlock = some q → w.heap.size ≤ q := fun q hq => (World.ownsRow.lt HOW.out q hq).1
        have hb6 : Below w.heap.size w w6 := (hb.alloc hb.size _).grown hgrow (by simp; omega) (fun q hq => by have := hrow q hq; omega)
        have ho : Own Ev.cells 32 6 w6 w.heap.size (.slice (some ⟨g', 0, none⟩) (k + 1) cap') (List.replicate (k + 1) (eF 1)) := by
          unfold Own
          rw [List.length_replicate, List.replicate_succ', List.flatMap_append]
          simpa [eF, Ev.cells] using hown6
        go_roundg (N - (k + 1))
        case measure => have := HMK.out; omega
        case rel => exact ⟨k + 1, by omega, rfl, by go_num, ho, hb6⟩
      · obtain rfl : k = N := by omega
        have hkI : ¬ (k : Int) < k := by omega
        obtain ⟨A5, c5, rfl, hc5, hr5⟩ := rep_rows hown
        obtain ⟨b, off, rfl, -, -⟩ := hr5 (by omega)
        clear hown
        go_upto_region 12 with fail
        have gW := heap_alloc_new wr (.cells #[.int .i64 1, .int .i64 5000, .int .i64 5000] 42)
        have hq : Below wr.heap.size wr (wr.alloc (.cells #[.int .i64 1, .int .i64 5000, .int .i64 5000] 42)) := (Below.refl _ _).alloc (Nat.le_refl _) _
        replace hr5 := (hr5.below hq (Nat.le_refl _)).more hq.size
        replace hb := below_trans' hb hb.size hq
        generalize wr.alloc (.cells #[.int .i64 1, .int .i64 5000, .int .i64 5000] 42) = w2 at *
        generalize wr.heap.size = GW at *
        clear hq
        go_wp2_with fail
        refine (AL.out _ _ _ GW 50 w2 (by omega) hr5 (rows_one (x := ⟨1, 5000, 5000⟩) gW)).mono ?_
        rintro en w3 ⟨rfl, hq⟩
        rw [show bAl wF 1 (xF 1) k 50 = 8 from HX8.out]
        replace gW := blk_kept1 hq gW
        replace hr5 := (hr5.below hq (Nat.le_refl _)).more hq.size
        replace hb := below_trans' hb hb.size hq
        clear hq
        have hc1 : (1 : Int) ≤ c5 := by omega
        have hc7 : (7 : Int) ≤ c5 := by omega
        go_wp2_with fail
        refine (AL.out _ 1 _ GW 999 w3 (by omega) (rows_less hr5 (by omega)) (rows_one (x := ⟨1, 5000, 5000⟩) gW)).mono ?_
        rintro en w4 ⟨rfl, hq⟩
        rw [show bAl wF 1 (xF 1) 1 999 = 0 from HX1.out]
        replace gW := blk_kept1 hq gW
        replace hr5 := (hr5.below hq (Nat.le_refl _)).more hq.size
        replace hb := below_trans' hb hb.size hq
        clear hq
        go_wp2_with fail
        refine (AL.out _ 7 _ GW 50 w4 (by omega) (rows_less hr5 (by omega)) (rows_one (x := ⟨1, 5000, 5000⟩) gW)).mono ?_
        rintro en w5 ⟨rfl, hq⟩
        rw [show bAl wF 1 (xF 1) 7 50 = 0 from HX7.out]
        replace hb := below_trans' hb hb.size hq
        go_wp2_with fail
        go_ret
        exact ⟨rfl, hb⟩
  · have hx8 : alarmF 2 50 N = 8 := by have h := find_all (N - 12) (by omega); rw [show 12 + (N - 12) = N by omega] at h; exact h.2
    have hx1 : alarmF 2 999 1 = 0 := find_one.2.1
    have hx7 : alarmF 2 50 7 = 0 := find_one.2.2.2
    have al65 := fun (A : Option Addr) (k cp : Nat) (GW : Nat) (lv : Int) (w' : World) (hk : k ≤ 31) (hR : RowsAt w' w'.heap.size 6 A k fun _ => (eF 2).cells) hW => alarm65 A k cp (xF 2) (some ⟨GW, 0, none⟩) 1 1 wF lv w' (by omega) (by omega) hR hW (fun i _ => by simp [xF])
    have AL := Lib.hid al65
    have HX8 := Lib.hid hx8
    have HX1 := Lib.hid hx1
    have HX7 := Lib.hid hx7
    clear al65 hx8 hx1 hx7
    go_enter Try.func21, Try.ntmps21
    go_wp2_with fail
    refine (awake51 w).mono ?_
    rintro en w1 ⟨rfl, hb1⟩
    go_upto_region 5 with fail
    go_loopg [5, 6, 7] N (fun mm s5 s6 s7 wr => ∃ k : Nat, k ≤ N ∧ mm = N - k ∧ s6 = .int .i64 k ∧ Own Ev.cells 32 6 wr w.heap.size s5 (List.replicate k (eF 2)) ∧ Below w.heap.size w wr)
    case atStart => exact ⟨0, by omega, by omega, rfl, Own.nil _ _ _ _ _, hb1⟩
    case round =>
      obtain ⟨k, hk, hmk, rfl, hown, hb⟩ := hrel
      have HMK := Lib.hid hmk
      clear hmk hb1
      by_cases hkN : k < N
      · have hkI : (k : Int) < N := by omega
        obtain ⟨A5, c5, rfl, hc5⟩ := Own.shape hown
        rw [List.length_replicate] at hown ⊢
        go_upto_region 10 with fail
        have gE2 := heap_alloc_new wr (.cells #[.string ⟨#[]⟩, .string ⟨#[]⟩, .int .i64 0, .int .i64 0, .int .i64 2, .int .i64 1] 32)
        have hq2 : Below wr.heap.size wr (wr.alloc (.cells #[.string ⟨#[]⟩, .string ⟨#[]⟩, .int .i64 0, .int .i64 0, .int .i64 2, .int .i64 1] 32)) := (Below.refl _ _).alloc (Nat.le_refl _) _
        generalize wr.alloc (.cells #[.string ⟨#[]⟩, .string ⟨#[]⟩, .int .i64 0, .int .i64 0, .int .i64 2, .int .i64 1] 32) = w2 at *
        replace hown : Own Ev.cells 32 6 w2 w.heap.size (.slice A5 k c5) (List.replicate k (eF 2)) := Own.below hown hq2
        replace hb := below_trans' hb hb.size hq2
        have y0 := cell_of_block gE2 0
        have y1 := cell_of_block gE2 1
        have y2 := cell_of_block gE2 2
        have y3 := cell_of_block gE2 3
        have y4 := cell_of_block gE2 4
        have y5 := cell_of_block gE2 5
        simp only [List.getElem?_toArray, List.getElem?_cons_zero, List.getElem?_cons_succ] at y0 y1 y2 y3 y4 y5
        have hown' : w2.ownsRow w.heap.size 32 6 (.slice A5 k c5) k ((List.replicate k (eF 2)).flatMap Ev.cells) := by have h := hown; unfold Own at h; rw [List.length_replicate] at h; exact h
        have HOW := Lib.hid hown'
        clear hown' hq2
        have hs2 := hb.size
        go_wp2_with (at_builtin; refine wpList_append_lies _ (by rfl) (.tmp 23) (.tmp 25) 82 (by rfl) w.heap.size 32 i0 _ 6 64 Try.underlying82 hi hz0 hz1 hz2 rfl (by omega) _ _ _ (by rfl) (World.ownsRow.alloc HOW.out _) ⟨w2.heap.size, 0, none⟩ 1 1 [.string ⟨#[]⟩, .string ⟨#[]⟩, .int .i64 0, .int .i64 0, .int .i64 2, .int .i64 1] (by rfl) (by rfl) (World.news_of_block (heap_alloc_new w2 (.cells #[.string ⟨#[]⟩, .string ⟨#[]⟩, .int .i64 0, .int .i64 0, .int .i64 2, .int .i64 1] 32))) (by simp [Value.oneCell']) (by omega) (by unfold maxLen; omega) (by omega) (by simp; omega) (w2.heap.size + 1) (by simp) ?_; intro g' cap' w6 hown6 hgrow hat hlt6)
        have hrow : ∀ q, (Value.slice A5 k c5).ownBlock = some q → w.heap.size ≤ q := fun q hq => (World.ownsRow.lt HOW.out q hq).1
        have hb6 : Below w.heap.size w w6 := (hb.alloc hb.size _).grown hgrow (by simp; omega) (fun q hq => by have := hrow q hq; omega)
        have ho : Own Ev.cells 32 6 w6 w.heap.size (.slice (some ⟨g', 0, none⟩) (k + 1) cap') (List.replicate (k + 1) (eF 2)) := by
          unfold Own
          rw [List.length_replicate, List.replicate_succ', List.flatMap_append]
          simpa [eF, Ev.cells] using hown6
        go_roundg (N - (k + 1))
        case measure => have := HMK.out; omega
        case rel => exact ⟨k + 1, by omega, rfl, by go_num, ho, hb6⟩
      · obtain rfl : k = N := by omega
        have hkI : ¬ (k : Int) < k := by omega
        obtain ⟨A5, c5, rfl, hc5, hr5⟩ := rep_rows hown
        obtain ⟨b, off, rfl, -, -⟩ := hr5 (by omega)
        clear hown
        go_upto_region 12 with fail
        have gW := heap_alloc_new wr (.cells #[.int .i64 1, .int .i64 5000, .int .i64 5000] 42)
        have hq : Below wr.heap.size wr (wr.alloc (.cells #[.int .i64 1, .int .i64 5000, .int .i64 5000] 42)) := (Below.refl _ _).alloc (Nat.le_refl _) _
        replace hr5 := (hr5.below hq (Nat.le_refl _)).more hq.size
        replace hb := below_trans' hb hb.size hq
        generalize wr.alloc (.cells #[.int .i64 1, .int .i64 5000, .int .i64 5000] 42) = w2 at *
        generalize wr.heap.size = GW at *
        clear hq
        go_wp2_with fail
        refine (AL.out _ _ _ GW 50 w2 (by omega) hr5 (rows_one (x := ⟨1, 5000, 5000⟩) gW)).mono ?_
        rintro en w3 ⟨rfl, hq⟩
        rw [show bAl wF 1 (xF 2) k 50 = 8 from HX8.out]
        replace gW := blk_kept1 hq gW
        replace hr5 := (hr5.below hq (Nat.le_refl _)).more hq.size
        replace hb := below_trans' hb hb.size hq
        clear hq
        have hc1 : (1 : Int) ≤ c5 := by omega
        have hc7 : (7 : Int) ≤ c5 := by omega
        go_wp2_with fail
        refine (AL.out _ 1 _ GW 999 w3 (by omega) (rows_less hr5 (by omega)) (rows_one (x := ⟨1, 5000, 5000⟩) gW)).mono ?_
        rintro en w4 ⟨rfl, hq⟩
        rw [show bAl wF 1 (xF 2) 1 999 = 0 from HX1.out]
        replace gW := blk_kept1 hq gW
        replace hr5 := (hr5.below hq (Nat.le_refl _)).more hq.size
        replace hb := below_trans' hb hb.size hq
        clear hq
        go_wp2_with fail
        refine (AL.out _ 7 _ GW 50 w4 (by omega) (rows_less hr5 (by omega)) (rows_one (x := ⟨1, 5000, 5000⟩) gW)).mono ?_
        rintro en w5 ⟨rfl, hq⟩
        rw [show bAl wF 1 (xF 2) 7 50 = 0 from HX7.out]
        replace hb := below_trans' hb hb.size hq
        go_wp2_with fail
        go_ret
        exact ⟨rfl, hb⟩
end Go.Proofs.Ytgonighpjpfmnaa
