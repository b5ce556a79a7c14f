/- The walk of flagstonelaw39.ScorePredicts. -/
import Derived.Test.YtgonighpjpfmnaaLaw39a
namespace Go.Proofs.Ytgonighpjpfmnaa
open Go.RowKit

theorem Smp.made_in {cap : Int} {l : List Smp} (hc : cap ≤ 1099511627776) (h : ∀ s ∈ l, Smp.made cap s) : InSmp (fun i => l.getD i default) l.length := fun i hi => by
  have := h (l.getD i default) (by rw [List.getD_eq_getElem?_getD, List.getElem?_eq_getElem hi]; simp)
  obtain ⟨_, _, h1, h2, h3, h4⟩ := this
  dsimp only
  omega

/-- A list of samples of the call's own, as the contracts of Predict and Of want it. -/
theorem OwnSmp.rows {w : World} {B n cap : Nat} {A : Option Addr} {l : List Smp} (h : OwnSmp w B (.slice A n cap) l) : RowsAt w w.heap.size 10 A l.length (fun i => ((l.getD i default) : Smp).cells) := Own.rows Smp.len default h

set_option maxHeartbeats 1000000 in
theorem scorePredicts3 (a0 : Option Addr) (len0 cap0 : Nat) (z0 : List Int) (a1 : Int) (a2 : Int) (a3 : Int) (a4 : Int) (w : World) (w0 : IsRow .u8 w a0 len0 cap0 z0) (w1 : (Lit.int .i64 a1).wf = true) (_w2 : (Lit.int .i64 a2).wf = true) (_w3 : (Lit.int .i64 a3).wf = true) (w4 : (Lit.int .u16 a4).wf = true) :
    Calls Try.prog 3 #[.slice a0 len0 cap0, .int .i64 a1, .int .i64 a2, .int .i64 a3, .int .u16 a4] w fun e w' => e = .returned (.bool true) ∧ Below w.heap.size w w' := by
  have b1 := bounds_i64 w1
  have b4 := bounds_u16 w4
  have hB := w0.bytes
  clear w0 w1 w4
  by_cases hlen : 200 < len0
  · go_enter Try.func3, Try.ntmps3
    go_wp2_with (go_at_call 30; refine (awake30 _).mono ?_; rintro e w' ⟨rfl, hb⟩)
    go_ret
    exact ⟨rfl, hb⟩
  · go_enter Try.func3, Try.ntmps3
    go_wp2_with fail
    refine (awake30 _).mono ?_
    rintro e w1 ⟨rfl, hb1⟩
    have hB1 := (hB.kept hb1 (Nat.le_refl _))
    go_wp2_with fail
    refine (samples31 a0 len0 cap0 a4 w1 (by omega) (by omega) (by omega) ?_).mono ?_
    · obtain ⟨z, hz, hr⟩ := hB1; exact ⟨z, hz, hr.more hb1.size⟩
    rintro e w2 ⟨v, l, rfl, hl, hgood, hown, hb2⟩
    obtain ⟨A, cp, rfl, hcp⟩ := Own.shape hown
    have hR := OwnSmp.rows hown
    have hin := Smp.made_in (by omega) hgood
    have hb := below_trans hb1 hb2
    clear hgood hown hb1 hb2 hB1 hB
    go_wp2_with (first | (go_at_call 32; refine (class32 _ _ ?_ ?_).mono ?_ ; omega; omega; rintro e w' ⟨rfl, rfl⟩) | (go_at_call 33; refine (class33 _ _ ?_ ?_).mono ?_ ; omega; omega; rintro e w' ⟨rfl, rfl⟩))
    refine (predict34 A _ cp _ a2 a3 a4 w2 (by omega) hcp hR hin (by omega) (by omega)).mono ?_
    rintro e w3 ⟨rfl, hb3⟩
    have hR := (hR.below hb3 (Nat.le_refl _)).more hb3.size
    have hb := below_trans hb hb3
    clear hb3
    go_wp2_with fail
    refine (predict35 A _ cp _ a2 a3 a4 w3 (by omega) hcp hR hin (by omega) (by omega)).mono ?_
    rintro e w4 ⟨rfl, hb4⟩
    have hR := (hR.below hb4 (Nat.le_refl _)).more hb4.size
    have hb := below_trans hb hb4
    clear hb4
    go_wp2_with fail
    go_loopg [13] (l.length + 2) (fun m i wr => ∃ j : Int, -1 ≤ j ∧ j ≤ l.length + 1 ∧ m = (l.length + 1 - j).toNat ∧ i = .int .i64 j ∧ Below w.heap.size w wr ∧ RowsAt wr wr.heap.size 10 A l.length (fun i => ((l.getD i default) : Smp).cells))
    case atStart => exact ⟨-1, by omega, by omega, by omega, rfl, hb, hR⟩
    case round =>
      clear hb hR
      obtain ⟨j, hj0, hj1, hm, rfl, hb, hR⟩ := hrel
      have HM := Lib.hid hm
      clear hm
      by_cases hlt : j ≤ l.length
      · go_wp2_with fail
        go_loopg [14] 4 (fun m i wr => ∃ k : Nat, k ≤ 4 ∧ m = 4 - k ∧ i = .int .i64 k ∧ Below w.heap.size w wr ∧ RowsAt wr wr.heap.size 10 A l.length (fun i => ((l.getD i default) : Smp).cells))
        case atStart => exact ⟨0, by omega, by omega, rfl, hb, hR⟩
        case round =>
          clear hb hR
          obtain ⟨k, hk, hm, rfl, hb, hR⟩ := hrel
          have HM2 := Lib.hid hm
          clear hm
          by_cases hk4 : k < 4
          · go_wp2_with fail
            refine (predict34 A _ cp _ j k a4 _ (by omega) hcp hR hin (by omega) (by omega)).mono ?_
            rintro e w3 ⟨rfl, hb3⟩
            have hR := (hR.below hb3 (Nat.le_refl _)).more hb3.size
            have hb := below_trans hb hb3
            clear hb3
            go_wp2_with fail
            refine (predict35 A _ cp _ j k a4 w3 (by omega) hcp hR hin (by omega) (by omega)).mono ?_
            rintro e w4 ⟨rfl, hb4⟩
            have hR := (hR.below hb4 (Nat.le_refl _)).more hb4.size
            have hb := below_trans hb hb4
            clear hb4
            go_wp2_with fail
            go_roundg (4 - (k + 1))
            case measure => have := HM2.out; omega
            case rel => exact ⟨k + 1, by omega, rfl, by go_num, hb, hR⟩
          · go_wp2_with fail
            go_roundg ((l.length + 1 - (j + 1)).toNat)
            case measure => have := HM.out; omega
            case rel => exact ⟨j + 1, by omega, by omega, rfl, rfl, hb, hR⟩
      · go_wp2_with fail
        go_ret
        exact ⟨rfl, hb⟩
end Go.Proofs.Ytgonighpjpfmnaa
