/- The walk of flagstonelaw41.SequenceTells. -/
import Derived.Test.YtgonighpjpfmnaaAwake41
import Derived.Test.YtgonighpjpfmnaaAwake42
import Derived.Test.YtgonighpjpfmnaaWealthMonotone
namespace Go.Proofs.Ytgonighpjpfmnaa
open Go.RowKit Go.Maps

theorem triple3 (a b c : Int) : ∀ i, i < 3 → (#[.int .i64 a, .int .i64 b, .int .i64 c] : Array Value)[i]? = some (.int .i64 (([a, b, c] : List Int).getD i 0))
  | 0, _ => rfl
  | 1, _ => rfl
  | 2, _ => rfl
  | i + 3, h => absurd h (by omega)

set_option maxRecDepth 100000 in
set_option maxHeartbeats 2000000 in
theorem sequenceTells22 (a0 : Option Addr) (len0 cap0 : Nat) (z0 : List Int) (a1 a2 : Int) (w : World) (w0 : IsRow .u8 w a0 len0 cap0 z0) (_ : (Lit.int .i64 a1).wf = true) (w2 : (Lit.int .u16 a2).wf = true) :
    Calls Try.prog 22 #[.slice a0 len0 cap0, .int .i64 a1, .int .u16 a2] w fun e w' => e = .returned (.bool true) ∧ Below w.heap.size w w' := by
  have b2 := bounds_u16 w2
  have hB := w0.bytes
  clear w0 w2
  by_cases hlen : 60 < len0
  · go_enter Try.func22, Try.ntmps22
    go_wp2_with (go_at_call 67; refine (awake67 _).mono ?_; rintro e w' ⟨rfl, hb⟩)
    go_ret
    exact ⟨rfl, hb⟩
  · go_enter Try.func22, Try.ntmps22
    go_wp2_with fail
    refine (awake67 w).mono ?_
    rintro e w1 ⟨rfl, hb1⟩
    go_wp2_with fail
    refine (scores49 a0 len0 cap0 w1 (by omega) ((hB.kept hb1 (Nat.le_refl _)).more' hb1.size)).mono ?_
    rintro e w2 ⟨v, l, rfl, hl, hs, hown, hb2⟩
    obtain ⟨A, cp, rfl, hcp⟩ := Own.shape hown
    have hR := Own.rows (c := Scr.cells) (fun _ => rfl) default hown
    have hRb := small_bd hs
    have hb := below_trans' hb1 hb1.size hb2
    clear hown hs hB hb1 hb2
    have HRb := Lib.hid hRb
    clear hRb
    obtain ⟨S2, hS2⟩ : ∃ s, a2 % 1002 = s := ⟨_, rfl⟩
    go_wp2_with fail
    go_loopg [8] 3 (fun m i wr => ∃ k : Nat, k ≤ 3 ∧ m = 3 - k ∧ i = .int .i64 k ∧ Below w2.heap.size w2 wr)
    case atStart => exact ⟨0, by omega, by omega, rfl, Below.refl _ _⟩
    case round =>
      obtain ⟨k, hk, hmk, rfl, hbr⟩ := hrel
      have HMK := Lib.hid hmk
      clear hmk
      by_cases hkl : k < 3
      · have hdk : decide ((k : Int) < 3) = true := by simp; omega
        obtain ⟨lv, hlv⟩ : ∃ lv, ([a1, S2, 900] : List Int).getD k 0 = lv := ⟨_, rfl⟩
        obtain ⟨LO, hLO⟩ : ∃ x, lowR (fun i => l.getD i default) lv l.length = x := ⟨_, rfl⟩
        obtain ⟨HI, hHI⟩ : ∃ x, highR (fun i => l.getD i default) lv l.length = x := ⟨_, rfl⟩
        have HLO := Lib.hid hLO
        have HHI := Lib.hid hHI
        clear hLO hHI
        have gz := heap_alloc_new wr (.cells #[.int .i64 a1, .int .i64 S2, .int .i64 900] 3)
        have hbz : Below wr.heap.size wr (wr.alloc (.cells #[.int .i64 a1, .int .i64 S2, .int .i64 900] 3)) := (Below.refl _ _).alloc (Nat.le_refl _) _
        have y0 : (wr.alloc (.cells #[.int .i64 a1, .int .i64 S2, .int .i64 900] 3)).cell? ⟨wr.heap.size, k, none⟩ = some (.int .i64 lv) := by
          rw [cell_of_block gz k, triple3 a1 S2 900 k hkl, hlv]
        have hbr2 := below_trans' hbr hbr.size hbz
        clear hbz gz hlv
        go_wp2_with fail
        generalize wr.alloc (.cells #[.int .i64 a1, .int .i64 S2, .int .i64 900] 3) = w3 at *
        have hRw := (hR.below hbr2 (Nat.le_refl _)).more hbr2.size
        refine (lower68 A l.length cp (fun i => l.getD i default) lv w3 (by omega) hRw HRb.out).mono ?_
        rintro e w4 ⟨rfl, hb4⟩
        rw [HLO.out]
        replace hRw := (hRw.below hb4 (Nat.le_refl _)).more hb4.size
        replace hbr2 := below_trans' hbr2 hbr2.size hb4
        clear hb4 y0
        go_wp2_with fail
        refine (lower69 A l.length cp (fun i => l.getD i default) lv w4 (by omega) hRw HRb.out).mono ?_
        rintro e w5 ⟨rfl, hb4⟩
        rw [HLO.out]
        replace hRw := (hRw.below hb4 (Nat.le_refl _)).more hb4.size
        replace hbr2 := below_trans' hbr2 hbr2.size hb4
        clear hb4
        go_wp2_with fail
        refine (upper70 A l.length cp (fun i => l.getD i default) lv w5 (by omega) hRw HRb.out).mono ?_
        rintro e w6 ⟨rfl, hb4⟩
        rw [HHI.out]
        replace hRw := (hRw.below hb4 (Nat.le_refl _)).more hb4.size
        replace hbr2 := below_trans' hbr2 hbr2.size hb4
        clear hb4
        go_wp2_with fail
        refine (upper71 A l.length cp (fun i => l.getD i default) lv w6 (by omega) hRw HRb.out).mono ?_
        rintro e w7 ⟨rfl, hb4⟩
        rw [HHI.out]
        replace hbr2 := below_trans' hbr2 hbr2.size hb4
        clear hb4
        go_wp2_with fail
        go_roundg (3 - (k + 1))
        case measure => have := HMK.out; omega
        case rel => exact ⟨k + 1, by omega, rfl, by go_num, hbr2⟩
      · have hdk : decide ((k : Int) < 3) = false := by simp; omega
        go_wp2_with fail
        go_ret
        exact ⟨rfl, hb.trans (hbr.mono hb.size)⟩
end Go.Proofs.Ytgonighpjpfmnaa
