/- The walk of flagstonelaw41.SequenceTruth. -/
import Derived.Test.YtgonighpjpfmnaaTruth0
namespace Go.Proofs.Ytgonighpjpfmnaa
open Go.RowKit Go.Maps

set_option maxRecDepth 100000 in
set_option maxHeartbeats 2000000 in
theorem sequenceTruth25 (a0 a1 a2 : Int) (w : World) (w0 : (Lit.int .u8 a0).wf = true) (w1 : (Lit.int .u8 a1).wf = true) (w2 : (Lit.int .u16 a2).wf = true) :
    Calls Try.prog 25 #[.int .u8 a0, .int .u8 a1, .int .u16 a2] w fun e w' => e = .returned (.bool true) ∧ Below w.heap.size w w' := by
  have b0 := bounds_u8 w0
  have b1 := bounds_u8 w1
  have b2 := bounds_u16 w2
  obtain ⟨i0, hi, hz0, hz1, hz2⟩ := info_parts info37
  clear w0 w1 w2
  obtain ⟨u, hu⟩ : ∃ u, 1 + a0 % 10 = u := ⟨_, rfl⟩
  have hub : 1 ≤ u ∧ u ≤ 10 := by omega
  have q1 := Int.emod_nonneg a1 (show 2 * u + 1 ≠ 0 by omega)
  have q2 := Int.emod_lt_of_pos a1 (show 0 < 2 * u + 1 by omega)
  obtain ⟨num, hnum⟩ : ∃ num, a1 % (2 * u + 1) - u = num := ⟨_, rfl⟩
  have hnb : -u ≤ num ∧ num ≤ u := by omega
  obtain ⟨n, hn⟩ : ∃ n, 50 + a2 % 900 = n := ⟨_, rfl⟩
  have hnn : 50 ≤ n ∧ n ≤ 949 := by omega
  have p10 : 0 < 2 * u + 1 := by omega
  have p11 : ¬ (2 * u + 1 = 0) := by omega
  have ht1 := truth_low (num := num) (u := u) (n := n) hub.1 hub.2 hnb.1 hnb.2 hnn.1 hnn.2
  have ht2 := truth_high (num := num) (u := u) (n := n) hub.1 hub.2 hnb.1 hnb.2 hnn.1 hnn.2
  have hq1 := lowR_bd (fun _ => tS num u) n 300
  have hq2 := highR_bd (fun _ => tS num u) n 300
  obtain ⟨LO, hLO⟩ : ∃ x, lowR (fun _ => tS num u) n 300 = x := ⟨_, rfl⟩
  obtain ⟨HI, hHI⟩ : ∃ x, highR (fun _ => tS num u) n 300 = x := ⟨_, rfl⟩
  rw [hLO] at ht1 hq1
  rw [hHI] at ht2 hq2
  have HLO := Lib.hid hLO
  have HHI := Lib.hid hHI
  clear hLO hHI
  have m1 := mul_le4 (a := LO) (b := u) (A := 1001) (B := 10) (by omega) (by omega) (by omega) (by omega) (by omega)
  have m2 := mul_le4 (a := HI) (b := u) (A := 1001) (B := 10) (by omega) (by omega) (by omega) (by omega) (by omega)
  rw [Int.mul_comm u LO] at m1
  rw [Int.mul_comm u HI] at m2
  have m3 : IntKind.i64.wrap (LO * u) = LO * u := IntWalk.i64_in _ (by omega)
  have m4 : IntKind.i64.wrap (HI * u) = HI * u := IntWalk.i64_in _ (by omega)
  go_enter Try.func25, Try.ntmps25
  go_wp2_with fail
  refine (awake67 w).mono ?_
  rintro e w1 ⟨rfl, hb1⟩
  go_wp2_with fail
  have gx := heap_alloc_new w1 (.cells #[.int .i64 num, .int .i64 u, .int .i64 (2 * u)] 37)
  have hb2 := hb1.alloc hb1.size (.cells #[.int .i64 num, .int .i64 u, .int .i64 (2 * u)] 37)
  generalize w1.alloc (.cells #[.int .i64 num, .int .i64 u, .int .i64 (2 * u)] 37) = w2 at *
  generalize hG : w1.heap.size = G at *
  clear hG hb1
  have hGl := lt_of_blk gx
  go_loopg [10, 9] 300 (fun m i v wr => ∃ k : Nat, k ≤ 300 ∧ m = 300 - k ∧ i = .int .i64 k ∧ OwnScr wr w2.heap.size v (List.replicate k (tS num u)) ∧ Below w2.heap.size w2 wr)
  case atStart => exact ⟨0, by omega, by omega, rfl, Own.nil _ _ _ _ _, Below.refl _ _⟩
  case round =>
    obtain ⟨k, hk, hmk, rfl, hown, hb⟩ := hrel
    have HMK := Lib.hid hmk
    clear hmk
    have gxr : wr.heap[G]? = some (.cells #[.int .i64 num, .int .i64 u, .int .i64 (2 * u)] 37 (0, 0)) := (hb.block _ hGl).trans gx
    have y0 := cell_of_block gxr 0
    have y1 := cell_of_block gxr 1
    have y2 := cell_of_block gxr 2
    simp only [List.getElem?_toArray, List.getElem?_cons_zero, List.getElem?_cons_succ] at y0 y1 y2
    have hlen : (List.replicate k (tS num u)).length = k := by simp
    obtain ⟨A, cp, rfl, hcp⟩ := Own.shape hown
    rw [hlen] at hcp ⊢
    by_cases hkn : k < 300
    · have hdk : decide ((k : Int) < 300) = true := by simp; omega
      have hsz := hb.size
      have hown' : World.ownsRow wr w2.heap.size 37 3 (.slice A k cp) k ((List.replicate k (tS num u)).flatMap Scr.cells) := by have h := hown; unfold OwnScr Own at h; rw [hlen] at h; exact h
      clear hown
      go_wp2_with (at_builtin; refine wpList_append_lies _ (by rfl) (.tmp 36) (.tmp 38) 38 (by rfl) w2.heap.size 37 i0 _ 3 24 Try.underlying38 hi hz0 hz1 hz2 rfl (by omega) _ _ _ (by rfl) (World.ownsRow.alloc hown' _) ⟨wr.heap.size, 0, none⟩ 1 1 [.int .i64 num, .int .i64 u, .int .i64 (2 * u)] (by rfl) (by rfl) (World.news_of_block (heap_alloc_new wr (.cells #[.int .i64 num, .int .i64 u, .int .i64 (2 * u)] 37))) (by simp [Value.oneCell']) (by omega) (by unfold maxLen; omega) (by omega) (by simp; omega) (wr.heap.size + 1) (by simp) ?_; intro g' cap' w6 hown6 hgrow hat hlt6)
      have hb6 : Below w2.heap.size w2 w6 := (hb.alloc hb.size _).grown hgrow (by simp; omega) (fun q hq => (World.ownsRow.lt hown' q hq).1)
      have ho : OwnScr w6 w2.heap.size (.slice (some ⟨g', 0, none⟩) (k + 1) cap') (List.replicate (k + 1) (tS num u)) := by
        rw [List.replicate_succ']
        refine Own.snoc (c := Scr.cells) ?_
        rw [hlen]
        exact hown6
      clear hown6 hgrow hat hown'
      go_roundg (300 - (k + 1))
      case measure => have := HMK.out; omega
      case rel => exact ⟨k + 1, by omega, rfl, by go_num, ho, hb6⟩
    · have hdk : decide ((k : Int) < 300) = false := by simp; omega
      obtain rfl : k = 300 := by omega
      have hR := Own.rows (c := Scr.cells) (fun _ => rfl) (tS num u) hown
      rw [hlen] at hR
      have hfun : (fun i => ((List.replicate 300 (tS num u)).getD i (tS num u)).cells) = fun i : Nat => ((fun _ => tS num u) i : Scr).cells := by
        funext i
        rw [List.getD_eq_getElem?_getD, List.getElem?_replicate]
        split <;> rfl
      rw [hfun] at hR
      have hbd : ∀ k, k < 300 → -9223372036854775808 ≤ ((fun _ => tS num u) k : Scr).unit ∧ ((fun _ => tS num u) k : Scr).rng ≤ 9223372036854775807 := fun _ _ => by simp [tS]; omega
      have HBD := Lib.hid hbd
      have hfin := hb2.trans (hb.mono hb2.size)
      have hGr : G < wr.heap.size := lt_of_blk gxr
      clear hown hfun hbd hb hlen
      go_wp2_with fail
      refine (lower68 A 300 cp (fun _ => tS num u) n _ (by omega) hR HBD.out).mono ?_
      rintro e w3 ⟨rfl, hb3⟩
      rw [HLO.out]
      replace hR := (hR.below hb3 (Nat.le_refl _)).more hb3.size
      replace hfin := below_trans' hfin hfin.size hb3
      replace gxr := (hb3.block _ hGr).trans gxr
      clear hb3 y0 y1 y2
      go_wp2_with fail
      refine (upper70 A 300 cp (fun _ => tS num u) n _ (by omega) hR HBD.out).mono ?_
      rintro e w4 ⟨rfl, hb3⟩
      rw [HHI.out]
      replace hfin := below_trans' hfin hfin.size hb3
      replace gxr := (hb3.block _ (lt_of_blk gxr)).trans gxr
      have y0 := cell_of_block gxr 0
      simp only [List.getElem?_toArray, List.getElem?_cons_zero] at y0
      clear hb3 hR
      go_wp2_with fail
      go_ret
      exact ⟨rfl, hfin⟩
end Go.Proofs.Ytgonighpjpfmnaa
