/- The walk of flagstonelaw40.WealthPaths. -/
import Derived.Test.YtgonighpjpfmnaaPath2
import Derived.Test.YtgonighpjpfmnaaScoreSums
namespace Go.Proofs.Ytgonighpjpfmnaa
open Go.RowKit

theorem kScore_rows {w : World} {a : Option Addr} {len cap : Nat} (h : IsRows kScore w a len cap) : ∃ F : Nat → Scr, RowsAt w w.heap.size 3 a len (fun i => (F i).cells) ∧ ∀ i, i < len → -9223372036854775808 ≤ (F i).unit ∧ (F i).rng ≤ 9223372036854775807 := by
  obtain ⟨h1, _, f, hf, hR⟩ := h
  have hex : ∀ i, ∃ s : Scr, i < cap → f i = s.cells ∧ -9223372036854775808 ≤ s.unit ∧ s.rng ≤ 9223372036854775807 := fun i => by
    by_cases hi : i < cap
    · obtain ⟨s, hs, b1, b2, b3⟩ := kScore_of (hf i hi)
      exact ⟨s, fun _ => ⟨hs, b2.1, b3.2⟩⟩
    · exact ⟨default, fun h => absurd h hi⟩
  refine ⟨fun i => (hex i).choose, fun hn => ?_, fun i hi => ((hex i).choose_spec (by omega)).2⟩
  obtain ⟨b, off, hA, hb, hc⟩ := hR (by omega)
  refine ⟨b, off, hA, hb, fun i hi j u hu => ?_⟩
  exact hc i (by omega) j u (by rw [((hex i).choose_spec (by omega)).1]; exact hu)

theorem small_bd {l : List Scr} (h : ∀ s ∈ l, Scr.small s) : ∀ k, k < l.length → -9223372036854775808 ≤ (l.getD k default).unit ∧ (l.getD k default).rng ≤ 9223372036854775807 := fun k hk => by
  obtain ⟨h1, h2, h3, h4, h5, h6⟩ := h (l.getD k default) (by rw [List.getD_eq_getElem?_getD, List.getElem?_eq_getElem hk]; simp)
  omega

/-- The list of the wealths in memory. -/
theorem path_shape {f : Nat → Scr} {e : Int} {up : Bool} {n B : Nat} {w : World} {v : Value} (h : Own intC 3 1 w B v (pathR f e up n)) : ∃ A cap, v = .slice A n cap ∧ n ≤ cap ∧ RowsAt w w.heap.size 1 A n (fun i => [.int .i64 ((pathR f e up n).getD i 0)]) := by
  obtain ⟨A, cp, rfl, hcp⟩ := Own.shape h
  have hr := Own.rows (c := intC) intC_len 0 h
  rw [pathR_len] at hr hcp
  exact ⟨A, cp, by rw [pathR_len], hcp, hr⟩

set_option maxRecDepth 100000 in
set_option maxHeartbeats 2000000 in
theorem wealthPaths18 (a0 : Option Addr) (len0 cap0 : Nat) (z0 : List Int) (a1 : Option Addr) (len1 cap1 : Nat) (a2 a3 : Int) (a4 : Bool) (w : World) (w0 : IsRow .u8 w a0 len0 cap0 z0) (w1 : IsRows kScore w a1 len1 cap1) (w2 : (Lit.int .i16 a2).wf = true) (_ : (Lit.int .i64 a3).wf = true) :
    Calls Try.prog 18 #[.slice a0 len0 cap0, .slice a1 len1 cap1, .int .i16 a2, .int .i64 a3, .bool a4] w fun e w' => e = .returned (.bool true) ∧ Below w.heap.size w w' := by
  have b2 := bounds_i16 w2
  have hB := w0.bytes
  obtain ⟨F, hF, hFb⟩ := kScore_rows w1
  clear w0 w1 w2
  by_cases hlen : 100 < len0 ∨ 40 < len1
  · go_enter Try.func18, Try.ntmps18
    go_wp2_with (go_at_call 44; refine (awake44 _).mono ?_; rintro e w' ⟨rfl, hb⟩)
    all_goals (go_ret; exact ⟨rfl, hb⟩)
  · have hl1 : decide (100 < (len0 : Int)) = false := by simp; omega
    have hl2 : decide (40 < (len1 : Int)) = false := by simp; omega
    go_enter Try.func18, Try.ntmps18
    go_wp2_with fail
    refine (awake44 w).mono ?_
    rintro e w1 ⟨rfl, hb1⟩
    go_wp2_with fail
    refine (scores49 a0 len0 cap0 w1 (by omega) ((hB.kept hb1 (Nat.le_refl _)).more' hb1.size)).mono ?_
    rintro e w2 ⟨v, l, rfl, hl, hs, hown, hb2⟩
    obtain ⟨A, cp, rfl, hcp⟩ := Own.shape hown
    have hR := Own.rows (c := Scr.cells) (fun _ => rfl) default hown
    have hRb := small_bd hs
    have hb := below_trans' hb1 hb1.size hb2
    clear hown hs hB hb1 hb2
    replace hF := (hF.below hb (Nat.le_refl _)).more hb.size
    go_wp2_with fail
    refine (path60 A l.length cp (fun i => l.getD i default) (a2.tmod 1003) a4 w2 (by omega) hR hRb).mono ?_
    rintro en w3 ⟨v1, rfl, ho1, hq1⟩
    obtain ⟨P1, q1, rfl, hc1, hr1⟩ := path_shape ho1
    clear ho1
    replace hR := (hR.below hq1 (Nat.le_refl _)).more hq1.size
    replace hF := (hF.below hq1 (Nat.le_refl _)).more hq1.size
    replace hb := below_trans' hb hb.size hq1
    clear hq1
    go_wp2_with fail
    refine (path61 A l.length cp (fun i => l.getD i default) (a2.tmod 1003) a4 w3 (by omega) hR hRb).mono ?_
    rintro en w4 ⟨v2, rfl, ho2, hq2⟩
    obtain ⟨P2, q2, rfl, hc2, hr2⟩ := path_shape ho2
    replace hr1 := (hr1.below hq2 (Nat.le_refl _)).more hq2.size
    clear ho2
    replace hR := (hR.below hq2 (Nat.le_refl _)).more hq2.size
    replace hF := (hF.below hq2 (Nat.le_refl _)).more hq2.size
    replace hb := below_trans' hb hb.size hq2
    clear hq2
    go_wp2_with fail
    refine (same54 P1 P2 l.length q1 q2 (fun i => (pathR (fun i => l.getD i default) (a2.tmod 1003) a4 l.length).getD i 0) w4 (by omega) hr1 hr2).mono ?_
    rintro en w5 ⟨rfl, hq3⟩
    replace hR := (hR.below hq3 (Nat.le_refl _)).more hq3.size
    replace hF := (hF.below hq3 (Nat.le_refl _)).more hq3.size
    replace hb := below_trans' hb hb.size hq3
    clear hq3 hr1 hr2 hc1 hc2
    go_wp2_with fail
    refine (path60 a1 len1 cap1 F (a2.tmod 1003) a4 w5 (by omega) hF hFb).mono ?_
    rintro en w6 ⟨v1, rfl, ho1, hq1⟩
    obtain ⟨P1, q1, rfl, hc1, hr1⟩ := path_shape ho1
    clear ho1
    replace hR := (hR.below hq1 (Nat.le_refl _)).more hq1.size
    replace hF := (hF.below hq1 (Nat.le_refl _)).more hq1.size
    replace hb := below_trans' hb hb.size hq1
    clear hq1
    go_wp2_with fail
    refine (path61 a1 len1 cap1 F (a2.tmod 1003) a4 w6 (by omega) hF hFb).mono ?_
    rintro en w7 ⟨v2, rfl, ho2, hq2⟩
    obtain ⟨P2, q2, rfl, hc2, hr2⟩ := path_shape ho2
    replace hr1 := (hr1.below hq2 (Nat.le_refl _)).more hq2.size
    clear ho2
    replace hR := (hR.below hq2 (Nat.le_refl _)).more hq2.size
    replace hF := (hF.below hq2 (Nat.le_refl _)).more hq2.size
    replace hb := below_trans' hb hb.size hq2
    clear hq2
    go_wp2_with fail
    refine (same54 P1 P2 len1 q1 q2 (fun i => (pathR F (a2.tmod 1003) a4 len1).getD i 0) w7 (by omega) hr1 hr2).mono ?_
    rintro en w8 ⟨rfl, hq3⟩
    replace hR := (hR.below hq3 (Nat.le_refl _)).more hq3.size
    replace hF := (hF.below hq3 (Nat.le_refl _)).more hq3.size
    replace hb := below_trans' hb hb.size hq3
    clear hq3 hr1 hr2 hc1 hc2
    go_wp2_with fail
    refine (path60 A l.length cp (fun i => l.getD i default) a3 a4 w8 (by omega) hR hRb).mono ?_
    rintro en w9 ⟨v1, rfl, ho1, hq1⟩
    obtain ⟨P1, q1, rfl, hc1, hr1⟩ := path_shape ho1
    clear ho1
    replace hR := (hR.below hq1 (Nat.le_refl _)).more hq1.size
    replace hF := (hF.below hq1 (Nat.le_refl _)).more hq1.size
    replace hb := below_trans' hb hb.size hq1
    clear hq1
    go_wp2_with fail
    refine (path61 A l.length cp (fun i => l.getD i default) a3 a4 w9 (by omega) hR hRb).mono ?_
    rintro en w10 ⟨v2, rfl, ho2, hq2⟩
    obtain ⟨P2, q2, rfl, hc2, hr2⟩ := path_shape ho2
    replace hr1 := (hr1.below hq2 (Nat.le_refl _)).more hq2.size
    clear ho2
    replace hR := (hR.below hq2 (Nat.le_refl _)).more hq2.size
    replace hF := (hF.below hq2 (Nat.le_refl _)).more hq2.size
    replace hb := below_trans' hb hb.size hq2
    clear hq2
    go_wp2_with fail
    refine (same54 P1 P2 l.length q1 q2 (fun i => (pathR (fun i => l.getD i default) a3 a4 l.length).getD i 0) w10 (by omega) hr1 hr2).mono ?_
    rintro en w11 ⟨rfl, hq3⟩
    replace hR := (hR.below hq3 (Nat.le_refl _)).more hq3.size
    replace hF := (hF.below hq3 (Nat.le_refl _)).more hq3.size
    replace hb := below_trans' hb hb.size hq3
    clear hq3 hr1 hr2 hc1 hc2
    go_wp2_with fail
    go_ret
    exact ⟨rfl, hb⟩
end Go.Proofs.Ytgonighpjpfmnaa
