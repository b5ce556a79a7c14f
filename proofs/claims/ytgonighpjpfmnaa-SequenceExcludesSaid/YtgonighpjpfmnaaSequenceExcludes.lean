/- The walk of flagstonelaw41.SequenceExcludes. -/
import Derived.Test.YtgonighpjpfmnaaSeqLaw
namespace Go.Proofs.Ytgonighpjpfmnaa
open Go.RowKit Go.Maps

theorem quad_at (a b c d : Int) : ∀ i, i < 4 → (#[.int .i64 a, .int .i64 b, .int .i64 c, .int .i64 d] : Array Value)[i]? = some (.int .i64 (([a, b, c, d] : List Int).getD i 0))
  | 0, _ => rfl
  | 1, _ => rfl
  | 2, _ => rfl
  | 3, _ => rfl
  | i + 4, h => absurd h (by omega)

theorem quad_bd {a b c d x y : Int} (h1 : x ≤ a ∧ a ≤ y) (h2 : x ≤ b ∧ b ≤ y) (h3 : x ≤ c ∧ c ≤ y) (h4 : x ≤ d ∧ d ≤ y) : ∀ i, i < 4 → x ≤ ([a, b, c, d] : List Int).getD i 0 ∧ ([a, b, c, d] : List Int).getD i 0 ≤ y
  | 0, _ => h1
  | 1, _ => h2
  | 2, _ => h3
  | 3, _ => h4
  | i + 4, h => absurd h (by omega)

set_option maxRecDepth 100000 in
set_option maxHeartbeats 2000000 in
theorem sequenceExcludes23 (a0 : Option Addr) (len0 cap0 : Nat) (z0 : List Int) (a1 : Int) (a2 : Option Addr) (len2 cap2 : Nat) (z2 : List Int) (w : World) (w0 : IsRow .u8 w a0 len0 cap0 z0) (w1 : (Lit.int .u16 a1).wf = true) (w2 : IsRow .i16 w a2 len2 cap2 z2) :
    Calls Try.prog 23 #[.slice a0 len0 cap0, .int .u16 a1, .slice a2 len2 cap2] w fun e w' => e = .returned (.bool true) ∧ Below w.heap.size w w' := by
  have b1 := bounds_u16 w1
  have hB := w0.bytes
  obtain ⟨hE, hEw, -, -⟩ := w2.rows
  clear w0 w1 w2
  by_cases hlen : 60 < len0 ∨ 20 < len2
  · go_enter Try.func23, Try.ntmps23
    go_wp2_with (go_at_call 67; refine (awake67 _).mono ?_; rintro e w' ⟨rfl, hb⟩)
    all_goals (go_ret; exact ⟨rfl, hb⟩)
  · have hl1 : decide (60 < (len0 : Int)) = false := by simp; omega
    have hl2 : decide (20 < (len2 : Int)) = false := by simp; omega
    obtain ⟨n, hn⟩ : ∃ n, 1 + a1 % 999 = n := ⟨_, rfl⟩
    have HEw := Lib.hid hEw
    clear hEw
    go_enter Try.func23, Try.ntmps23
    go_wp2_with fail
    refine (awake67 w).mono ?_
    rintro e w1 ⟨rfl, hb1⟩
    go_wp2_with fail
    refine (scores49 a0 len0 cap0 w1 (by omega) ((hB.kept hb1 (Nat.le_refl _)).more' hb1.size)).mono ?_
    rintro e w2 ⟨v, l, rfl, hl, hs, hown, hb2⟩
    obtain ⟨A, cp, rfl, hcp⟩ := Own.shape hown
    have hR := Own.rows (c := Scr.cells) (fun _ => rfl) default hown
    have hRb := small_bd hs
    have hRv : allV (fun i => l.getD i default) l.length := small_vld hs
    have hb := below_trans' hb1 hb1.size hb2
    clear hown hs hB hb1 hb2
    have HRb := Lib.hid hRb
    obtain ⟨LO, hLO⟩ : ∃ x, lowR (fun i => l.getD i default) n l.length = x := ⟨_, rfl⟩
    obtain ⟨HI, hHI⟩ : ∃ x, highR (fun i => l.getD i default) n l.length = x := ⟨_, rfl⟩
    have hq1 := lowR_bd (fun i => l.getD i default) n l.length
    have hq2 := highR_bd (fun i => l.getD i default) n l.length
    have hx1 := fun e (h1 : -1000 ≤ e) (h2 : e ≤ 1000) => lowR_iff (f := fun i => l.getD i default) (level := n) (n := l.length) (by omega) hRv h1 h2
    have hx2 := fun e (h1 : -1000 ≤ e) (h2 : e ≤ 1000) => highR_iff (f := fun i => l.getD i default) (level := n) (n := l.length) (by omega) hRv h1 h2
    rw [hLO] at hq1
    rw [hHI] at hq2
    simp only [hLO] at hx1
    simp only [hHI] at hx2
    have HX1 := Lib.hid hx1
    have HX2 := Lib.hid hx2
    have HLO := Lib.hid hLO
    have HHI := Lib.hid hHI
    clear hRb hRv hLO hHI hx1 hx2
    go_wp2_with fail
    refine (lower68 A l.length cp (fun i => l.getD i default) n _ (by omega) hR HRb.out).mono ?_
    rintro e w3 ⟨rfl, hb4⟩
    rw [HLO.out]
    replace hR := (hR.below hb4 (Nat.le_refl _)).more hb4.size
    replace hb := below_trans' hb hb.size hb4
    clear hb4
    go_wp2_with fail
    refine (upper70 A l.length cp (fun i => l.getD i default) n _ (by omega) hR HRb.out).mono ?_
    rintro e w4 ⟨rfl, hb4⟩
    rw [HHI.out]
    replace hR := (hR.below hb4 (Nat.le_refl _)).more hb4.size
    replace hb := below_trans' hb hb.size hb4
    clear hb4
    go_wp2_with fail
    go_loopg [11] (len2 + 4) (fun m i wr => ∃ k : Nat, k ≤ len2 + 4 ∧ m = len2 + 4 - k ∧ i = .int .i64 k ∧ Below w4.heap.size w4 wr)
    case atStart => exact ⟨0, by omega, by omega, rfl, Below.refl _ _⟩
    case round =>
      obtain ⟨k, hk, hmk, rfl, hbr⟩ := hrel
      have HMK := Lib.hid hmk
      clear hmk
      by_cases hkl : k < len2 + 4
      · have hdk : decide ((k : Int) < (len2 : Int) + 4) = true := by simp; omega
        obtain ⟨r, hr⟩ : ∃ r, k % 4 = r := ⟨_, rfl⟩
        have hr4 : r < 4 := by omega
        have hrI : (k : Int) % 4 = r := by omega
        have gz := heap_alloc_new wr (.cells #[.int .i64 (LO - 1), .int .i64 LO, .int .i64 HI, .int .i64 (HI + 1)] 3)
        have hbz : Below wr.heap.size wr (wr.alloc (.cells #[.int .i64 (LO - 1), .int .i64 LO, .int .i64 HI, .int .i64 (HI + 1)] 3)) := (Below.refl _ _).alloc (Nat.le_refl _) _
        have y0 : (wr.alloc (.cells #[.int .i64 (LO - 1), .int .i64 LO, .int .i64 HI, .int .i64 (HI + 1)] 3)).cell? ⟨wr.heap.size, r, none⟩ = some (.int .i64 (([LO - 1, LO, HI, HI + 1] : List Int).getD r 0)) := by
          rw [cell_of_block gz r, quad_at _ _ _ _ r hr4]
        have hqb := quad_bd (a := LO - 1) (b := LO) (c := HI) (d := HI + 1) (x := -1010) (y := 1010) (by omega) (by omega) (by omega) (by omega) r hr4
        generalize ([LO - 1, LO, HI, HI + 1] : List Int).getD r 0 = E0 at *
        have hbr2 := below_trans' hbr hbr.size hbz
        clear hr gz hbz
        go_upto_if 56 with fail
        generalize wr.alloc (.cells #[.int .i64 (LO - 1), .int .i64 LO, .int .i64 HI, .int .i64 (HI + 1)] 3) = w5 at *
        go_cut [12] (fun s12 wx => ∃ e : Int, s12 = .int .i64 e ∧ -1010 ≤ e ∧ e ≤ 1010 ∧ wx = w5)
        case first =>
          by_cases h4 : 4 ≤ k
          · have hE5 := (hE.below (hb.trans (hbr2.mono hb.size)) (Nat.le_refl _))
            obtain ⟨b, off, rfl, _, hc⟩ := hE5 (by omega)
            have v0 := hc (k - 4) (by omega) 0 _ rfl
            simp only [Nat.add_zero, Nat.mul_one] at v0
            have hw := bounds_i16 (HEw.out (k - 4) (by omega))
            generalize z2.getD (k - 4) 0 = z at *
            have ht1 := Int.lt_tmod_of_pos z (show (0 : Int) < 1001 by omega)
            have ht2 := Int.tmod_lt_of_pos z (show (0 : Int) < 1001 by omega)
            clear hc hE5
            go_wp2_with fail
            go_meet
            case rel => exact ⟨_, rfl, by omega, by omega, rfl⟩
          · go_wp2_with fail
            go_meet
            case rel => exact ⟨_, rfl, by omega, by omega, rfl⟩
        case rest =>
          obtain ⟨e, rfl, he1, he2, rfl⟩ := hcut
          clear y0
          by_cases her : e < -1000 ∨ 1000 < e
          · rcases her with h | h
            all_goals
              go_wp2_with fail
              go_roundg (len2 + 4 - (k + 1))
              case measure => have := HMK.out; omega
              case rel => exact ⟨k + 1, by omega, rfl, by go_num, hbr2⟩
          · have hR5 := (hR.below hbr2 (Nat.le_refl _)).more hbr2.size
            obtain ⟨r1, hf1⟩ : ∃ r, firstN (fun i => (pathR (fun i => l.getD i default) e true l.length).getD i 0) (thrI n 2) l.length = r := ⟨_, rfl⟩
            obtain ⟨r2, hf2⟩ : ∃ r, firstN (fun i => (pathR (fun i => l.getD i default) e false l.length).getD i 0) (thrI n 2) l.length = r := ⟨_, rfl⟩
            have hi1 := HX1.out e (by omega) (by omega)
            have hi2 := HX2.out e (by omega) (by omega)
            unfold exR at hi1 hi2
            rw [hf1, decide_eq_true_eq] at hi1
            rw [hf2, decide_eq_true_eq] at hi2
            have HF1 := Lib.hid hf1
            have HF2 := Lib.hid hf2
            have n1 : ¬ e < -1000 := fun h => her (.inl h)
            have n2 : ¬ 1000 < e := fun h => her (.inr h)
            clear hf1 hf2 her
            go_wp2_with fail
            refine (path61 A l.length cp (fun i => l.getD i default) e true _ (by omega) hR5 HRb.out).mono ?_
            rintro en w6 ⟨v, rfl, ho, hb6⟩
            obtain ⟨A6, c6, rfl, hc6, hr6⟩ := path_shape ho
            replace hR5 := (hR5.below hb6 (Nat.le_refl _)).more hb6.size
            replace hbr2 := below_trans' hbr2 hbr2.size hb6
            clear ho hb6
            go_wp2_with fail
            refine (thr57 n 2 w6).mono ?_
            rintro en _ ⟨rfl, m1, rfl⟩
            go_wp2_with fail
            refine (first59 A6 l.length c6 (fun i => (pathR (fun i => l.getD i default) e true l.length).getD i 0) (thrI n 2) (w6.drewN m1) (by omega) (hr6.below (below_drewN (Below.refl _ _) m1) (Nat.le_refl _))).mono ?_
            rintro en _ ⟨rfl, rfl⟩
            rw [HF1.out]
            replace hR5 := hR5.below (below_drewN (Below.refl _ w6) m1) (Nat.le_refl _)
            replace hbr2 := below_drewN hbr2 m1
            clear hr6
            have hR6 : RowsAt (w6.drewN m1) (w6.drewN m1).heap.size 3 A l.length (fun i => (l.getD i default).cells) := hR5
            generalize w6.drewN m1 = w7 at *
            go_wp2_with fail
            refine (path61 A l.length cp (fun i => l.getD i default) e false _ (by omega) hR6 HRb.out).mono ?_
            rintro en w8 ⟨v, rfl, ho, hb6⟩
            obtain ⟨A8, c8, rfl, hc8, hr8⟩ := path_shape ho
            replace hbr2 := below_trans' hbr2 hbr2.size hb6
            clear ho hb6
            go_wp2_with fail
            refine (thr57 n 2 w8).mono ?_
            rintro en _ ⟨rfl, m2, rfl⟩
            go_wp2_with fail
            refine (first59 A8 l.length c8 (fun i => (pathR (fun i => l.getD i default) e false l.length).getD i 0) (thrI n 2) (w8.drewN m2) (by omega) (hr8.below (below_drewN (Below.refl _ _) m2) (Nat.le_refl _))).mono ?_
            rintro en _ ⟨rfl, rfl⟩
            rw [HF2.out]
            replace hbr2 := below_drewN hbr2 m2
            clear hr8
            by_cases c1 : e < LO
            · have p1 : 0 < r1 := hi1.2 c1
              by_cases c2 : HI < e
              · have p2 : 0 < r2 := hi2.2 c2
                go_wp2_with fail
                go_roundg (len2 + 4 - (k + 1))
                case measure => have := HMK.out; omega
                case rel => exact ⟨k + 1, by omega, rfl, by go_num, hbr2⟩
              · have p2 : ¬ 0 < r2 := fun h => c2 (hi2.1 h)
                go_wp2_with fail
                go_roundg (len2 + 4 - (k + 1))
                case measure => have := HMK.out; omega
                case rel => exact ⟨k + 1, by omega, rfl, by go_num, hbr2⟩
            · have p1 : ¬ 0 < r1 := fun h => c1 (hi1.1 h)
              by_cases c2 : HI < e
              · have p2 : 0 < r2 := hi2.2 c2
                go_wp2_with fail
                go_roundg (len2 + 4 - (k + 1))
                case measure => have := HMK.out; omega
                case rel => exact ⟨k + 1, by omega, rfl, by go_num, hbr2⟩
              · have p2 : ¬ 0 < r2 := fun h => c2 (hi2.1 h)
                go_wp2_with fail
                go_roundg (len2 + 4 - (k + 1))
                case measure => have := HMK.out; omega
                case rel => exact ⟨k + 1, by omega, rfl, by go_num, hbr2⟩
      · have hdk : decide ((k : Int) < (len2 : Int) + 4) = false := by simp; omega
        go_wp2_with fail
        go_ret
        exact ⟨rfl, hb.trans (hbr.mono hb.size)⟩
end Go.Proofs.Ytgonighpjpfmnaa
