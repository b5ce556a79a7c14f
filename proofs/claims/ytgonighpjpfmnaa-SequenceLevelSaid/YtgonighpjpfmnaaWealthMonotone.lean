/- The walk of flagstonelaw40.WealthMonotone. -/
import Derived.Test.YtgonighpjpfmnaaWealthPaths
namespace Go.Proofs.Ytgonighpjpfmnaa
open Go.RowKit

theorem small_vld {l : List Scr} (h : ∀ s ∈ l, Scr.small s) : ∀ k, k < l.length → vldS (l.getD k default).num (l.getD k default).unit (l.getD k default).rng = true := fun k hk => by
  obtain ⟨h1, h2, h3, h4, h5, h6⟩ := h (l.getD k default) (by rw [List.getD_eq_getElem?_getD, List.getElem?_eq_getElem hk]; simp)
  simp only [vldS, Bool.and_eq_true, decide_eq_true_eq]
  omega

theorem path_cell {f : Nat → Scr} {e : Int} {up : Bool} {n : Nat} {w : World} {A : Option Addr} {B k : Nat} (h : RowsAt w B 1 A n (fun i => [.int .i64 ((pathR f e up n).getD i 0)])) (hk : k < n) : ∃ b off, A = some ⟨b, off, none⟩ ∧ b < B ∧ w.cell? ⟨b, off + k, none⟩ = some (.int .i64 (meanAt f e up (k + 1))) := by
  obtain ⟨b, off, hA, hb, hc⟩ := h (by omega)
  refine ⟨b, off, hA, hb, ?_⟩
  have := hc k hk 0 _ rfl
  rw [pathR_getD f e up n k hk] at this
  simpa using this

set_option maxRecDepth 100000 in
set_option maxHeartbeats 2000000 in
theorem wealthMonotone19 (a0 : Option Addr) (len0 cap0 : Nat) (z0 : List Int) (a1 a2 : Int) (w : World) (w0 : IsRow .u8 w a0 len0 cap0 z0) (w1 : (Lit.int .i16 a1).wf = true) (w2 : (Lit.int .i16 a2).wf = true) :
    Calls Try.prog 19 #[.slice a0 len0 cap0, .int .i16 a1, .int .i16 a2] w fun e w' => e = .returned (.bool true) ∧ Below w.heap.size w w' := by
  have b1 := bounds_i16 w1
  have b2 := bounds_i16 w2
  have hB := w0.bytes
  clear w0 w1 w2
  by_cases hlen : 100 < len0
  · go_enter Try.func19, Try.ntmps19
    go_wp2_with (go_at_call 44; refine (awake44 _).mono ?_; rintro e w' ⟨rfl, hb⟩)
    go_ret
    exact ⟨rfl, hb⟩
  · go_enter Try.func19, Try.ntmps19
    go_wp2_with fail
    refine (awake44 w).mono ?_
    rintro e w1 ⟨rfl, hb1⟩
    go_wp2_with fail
    refine (scores49 a0 len0 cap0 w1 (by omega) ((hB.kept hb1 (Nat.le_refl _)).more' hb1.size)).mono ?_
    rintro e w2 ⟨v, l, rfl, hl, hs, hown, hb2⟩
    obtain ⟨A, cp, rfl, hcp⟩ := Own.shape hown
    have hR := Own.rows (c := Scr.cells) (fun _ => rfl) default hown
    have hRb := small_bd hs
    have hRv := small_vld hs
    have hb := below_trans' hb1 hb1.size hb2
    clear hown hs hB hb1 hb2
    obtain ⟨X, hX⟩ : ∃ X : Int, (min a1 a2).tmod 1001 = X := ⟨_, rfl⟩
    obtain ⟨Y, hY⟩ : ∃ X : Int, (max a1 a2).tmod 1001 = X := ⟨_, rfl⟩
    have hXb : -1001 < X ∧ X < 1001 := by
      have := Int.lt_tmod_of_pos (min a1 a2) (show (0 : Int) < 1001 by omega)
      have := Int.tmod_lt_of_pos (min a1 a2) (show (0 : Int) < 1001 by omega)
      omega
    have hYb : -1001 < Y ∧ Y < 1001 := by
      have := Int.lt_tmod_of_pos (max a1 a2) (show (0 : Int) < 1001 by omega)
      have := Int.tmod_lt_of_pos (max a1 a2) (show (0 : Int) < 1001 by omega)
      omega
    go_upto_if 34 with fail
    go_cut [8, 9] (fun s8 s9 wx => ∃ x y : Int, s8 = .int .i64 x ∧ s9 = .int .i64 y ∧ -1000 ≤ x ∧ x ≤ y ∧ y ≤ 1000 ∧ wx = w2)
    case first =>
      by_cases hxy : Y < X
      · go_wp2_with fail
        go_meet
        case rel => exact ⟨_, _, rfl, rfl, by omega, by omega, by omega, rfl⟩
      · go_wp2_with fail
        go_meet
        case rel => exact ⟨_, _, rfl, rfl, by omega, by omega, by omega, rfl⟩
    case rest =>
      obtain ⟨x, y, rfl, rfl, hx, hxy, hy, rfl⟩ := hcut
      clear hX hY hXb hYb
      go_wp2_with fail
      refine (path60 A l.length cp (fun i => l.getD i default) x true _ (by omega) hR hRb).mono ?_
      rintro en w3 ⟨v1, rfl, ho1, hq1⟩
      obtain ⟨P1, q1, rfl, hc1, hr1⟩ := path_shape ho1
      replace hR := (hR.below hq1 (Nat.le_refl _)).more hq1.size
      replace hb := below_trans' hb hb.size hq1
      clear ho1 hq1
      go_wp2_with fail
      refine (path60 A l.length cp (fun i => l.getD i default) y true w3 (by omega) hR hRb).mono ?_
      rintro en w4 ⟨v2, rfl, ho1, hq1⟩
      obtain ⟨P2, q2, rfl, hc2, hr2⟩ := path_shape ho1
      replace hR := (hR.below hq1 (Nat.le_refl _)).more hq1.size
      replace hr1 := (hr1.below hq1 (Nat.le_refl _)).more hq1.size
      replace hb := below_trans' hb hb.size hq1
      clear ho1 hq1
      go_wp2_with fail
      refine (path60 A l.length cp (fun i => l.getD i default) x false w4 (by omega) hR hRb).mono ?_
      rintro en w5 ⟨v3, rfl, ho1, hq1⟩
      obtain ⟨P3, q3, rfl, hc3, hr3⟩ := path_shape ho1
      replace hR := (hR.below hq1 (Nat.le_refl _)).more hq1.size
      replace hr1 := (hr1.below hq1 (Nat.le_refl _)).more hq1.size
      replace hr2 := (hr2.below hq1 (Nat.le_refl _)).more hq1.size
      replace hb := below_trans' hb hb.size hq1
      clear ho1 hq1
      go_wp2_with fail
      refine (path60 A l.length cp (fun i => l.getD i default) y false w5 (by omega) hR hRb).mono ?_
      rintro en w6 ⟨v4, rfl, ho1, hq1⟩
      obtain ⟨P4, q4, rfl, hc4, hr4⟩ := path_shape ho1
      replace hr1 := (hr1.below hq1 (Nat.le_refl _)).more hq1.size
      replace hr2 := (hr2.below hq1 (Nat.le_refl _)).more hq1.size
      replace hr3 := (hr3.below hq1 (Nat.le_refl _)).more hq1.size
      replace hb := below_trans' hb hb.size hq1
      clear ho1 hq1 hR hRb
      have HV := Lib.hid hRv
      clear hRv
      go_wp2_with fail
      go_loopg [14] l.length (fun m i wr => ∃ k : Nat, k ≤ l.length ∧ m = l.length - k ∧ i = .int .i64 k ∧ Below w6.heap.size w6 wr)
      case atStart => exact ⟨0, by omega, by omega, rfl, Below.refl _ _⟩
      case round =>
        obtain ⟨k, hk, hmk, rfl, hbr⟩ := hrel
        have HMK := Lib.hid hmk
        clear hmk
        by_cases hkl : k < l.length
        · obtain ⟨k1, o1, rfl, -, y1⟩ := path_cell (hr1.below hbr (Nat.le_refl _)) hkl
          obtain ⟨k2, o2, rfl, -, y2⟩ := path_cell (hr2.below hbr (Nat.le_refl _)) hkl
          obtain ⟨k3, o3, rfl, -, y3⟩ := path_cell (hr3.below hbr (Nat.le_refl _)) hkl
          obtain ⟨k4, o4, rfl, -, y4⟩ := path_cell (hr4.below hbr (Nat.le_refl _)) hkl
          obtain ⟨m1, m2⟩ := meanAt_mono HV.out hxy hx hy (k + 1) (by omega)
          have m3 := meanAt_bd (fun i => l.getD i default) x true (k + 1)
          generalize meanAt (fun i => l.getD i default) x true (k + 1) = t1 at *
          generalize meanAt (fun i => l.getD i default) y true (k + 1) = t2 at *
          generalize meanAt (fun i => l.getD i default) x false (k + 1) = t3 at *
          generalize meanAt (fun i => l.getD i default) y false (k + 1) = t4 at *
          go_wp2_with fail
          go_quiet (fail)
          go_wp2_with fail
          go_roundg (l.length - (k + 1))
          case measure => have := HMK.out; omega
          case rel => exact ⟨k + 1, by omega, rfl, by go_num, below_drewN hbr _⟩
        · go_wp2_with fail
          go_ret
          exact ⟨rfl, hb.trans (hbr.mono hb.size)⟩
end Go.Proofs.Ytgonighpjpfmnaa
