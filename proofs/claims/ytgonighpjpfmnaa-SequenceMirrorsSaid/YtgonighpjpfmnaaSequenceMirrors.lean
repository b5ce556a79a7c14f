/- The walk of flagstonelaw41.SequenceMirrors. -/
import Derived.Test.YtgonighpjpfmnaaSeqLaw
namespace Go.Proofs.Ytgonighpjpfmnaa
open Go.RowKit Go.Maps

def negL (l : List Scr) (k : Nat) : List Scr := (List.range k).map fun i => (l.getD i default).neg
theorem negL_succ (l : List Scr) (k : Nat) : negL l (k + 1) = negL l k ++ [(l.getD k default).neg] := by simp [negL, List.range_succ]
theorem negL_len (l : List Scr) (k : Nat) : (negL l k).length = k := by simp [negL]

set_option maxRecDepth 100000 in
set_option maxHeartbeats 2000000 in
theorem sequenceMirrors24 (a0 : Option Addr) (len0 cap0 : Nat) (z0 : List Int) (a1 : Int) (w : World) (w0 : IsRow .u8 w a0 len0 cap0 z0) (w1 : (Lit.int .u16 a1).wf = true) :
    Calls Try.prog 24 #[.slice a0 len0 cap0, .int .u16 a1] w fun e w' => e = .returned (.bool true) ∧ Below w.heap.size w w' := by
  have b1 := bounds_u16 w1
  have hB := w0.bytes
  obtain ⟨i0, hi, hz0, hz1, hz2⟩ := info_parts info37
  clear w0 w1
  by_cases hlen : 60 < len0
  · go_enter Try.func24, Try.ntmps24
    go_wp2_with (go_at_call 67; refine (awake67 _).mono ?_; rintro e w' ⟨rfl, hb⟩)
    go_ret
    exact ⟨rfl, hb⟩
  · obtain ⟨n, hn⟩ : ∃ n, 1 + a1 % 999 = n := ⟨_, rfl⟩
    go_enter Try.func24, Try.ntmps24
    go_wp2_with fail
    refine (awake67 w).mono ?_
    rintro e w1 ⟨rfl, hb1⟩
    go_wp2_with fail
    refine (scores49 a0 len0 cap0 w1 (by omega) ((hB.kept hb1 (Nat.le_refl _)).more' hb1.size)).mono ?_
    rintro e w2 ⟨v, l, rfl, hl, hs, hown, hb2⟩
    obtain ⟨A, cp, rfl, hcp⟩ := Own.shape hown
    have hR := Own.rows (c := Scr.cells) (fun _ => rfl) default hown
    have hRb := small_bd hs
    have hb := below_trans' hb1 hb1.size hb2
    have hsm : ∀ k, k < l.length → Scr.small (l.getD k default) := fun k hk => hs _ (by rw [List.getD_eq_getElem?_getD, List.getElem?_eq_getElem hk]; simp)
    clear hown hs hB hb1 hb2
    have HRb := Lib.hid hRb
    have HSM := Lib.hid hsm
    clear hRb hsm
    go_wp2_with fail
    go_loopg [7, 6] l.length (fun m i v wr => ∃ k : Nat, k ≤ l.length ∧ m = l.length - k ∧ i = .int .i64 k ∧ OwnScr wr w2.heap.size v (negL l k) ∧ Below w2.heap.size w2 wr)
    case atStart => exact ⟨0, by omega, by omega, rfl, Own.nil _ _ _ _ _, Below.refl _ _⟩
    case round =>
      obtain ⟨k, hk, hmk, rfl, hown, hbr⟩ := hrel
      have HMK := Lib.hid hmk
      clear hmk
      by_cases hkl : k < l.length
      · obtain ⟨bk, off, hA, hblt, hc⟩ := ((hR.below hbr (Nat.le_refl _)).more hbr.size) (by omega)
        cases hA
        have v0 := hc k hkl 0 _ rfl
        have v1 := hc k hkl 1 _ rfl
        have v2 := hc k hkl 2 _ rfl
        simp only [Nat.add_zero] at v0
        obtain ⟨s1, s2, s3, s4, s5, s6⟩ := HSM.out k hkl
        have hsu := negL_succ l k
        have hll := negL_len l k
        generalize hq : l.getD k default = q at *
        generalize negL l k = L at *
        have HSU := Lib.hid hsu
        clear hsu hc hq
        obtain ⟨A6, cp6, rfl, hcp6⟩ := Own.shape hown
        rw [hll] at hcp6 ⊢
        have hown' : World.ownsRow wr w2.heap.size 37 3 (.slice A6 k cp6) k (L.flatMap Scr.cells) := by have h := hown; unfold OwnScr Own at h; rw [hll] at h; exact h
        have hown3 : World.ownsRow (wr.alloc (.cells #[.int .i64 (-q.num), .int .i64 q.unit, .int .i64 q.rng] 37)) w2.heap.size 37 3 (.slice A6 k cp6) k (L.flatMap Scr.cells) := World.ownsRow.alloc hown' _
        have hsz := hbr.size
        clear hown
        go_wp2_with (at_builtin; refine wpList_append_lies _ (by rfl) (.tmp 31) (.tmp 33) 38 (by rfl) w2.heap.size 37 i0 _ 3 24 Try.underlying38 hi hz0 hz1 hz2 rfl (by omega) _ _ _ (by rfl) (World.ownsRow.alloc hown3 _) ⟨wr.heap.size + 1, 0, none⟩ 1 1 [.int .i64 (-q.num), .int .i64 q.unit, .int .i64 q.rng] (by rfl) (by rfl) (World.news_of_block (by have := heap_alloc_new (wr.alloc (.cells #[.int .i64 (-q.num), .int .i64 q.unit, .int .i64 q.rng] 37)) (.cells #[.int .i64 (-q.num), .int .i64 q.unit, .int .i64 q.rng] 37); simpa using this)) (by simp [Value.oneCell']) (by omega) (by unfold maxLen; omega) (by omega) (by simp; omega) (wr.heap.size + 2) (by simp) ?_; intro g' cap' w6 hown6 hgrow hat hlt6)
        have hb6 : Below w2.heap.size w2 w6 := ((hbr.alloc hbr.size _).alloc (by simp; omega) _).grown hgrow (by simp; omega) (fun q hq => (World.ownsRow.lt hown3 q hq).1)
        have ho : OwnScr w6 w2.heap.size (.slice (some ⟨g', 0, none⟩) (k + 1) cap') (L ++ [q.neg]) := by
          refine Own.snoc (c := Scr.cells) ?_
          rw [hll]
          exact hown6
        clear hown6 hgrow hat hown3 hown'
        go_roundg (l.length - (k + 1))
        case measure => have := HMK.out; omega
        case rel => exact ⟨k + 1, by omega, rfl, by go_num, by rw [HSU.out]; exact ho, hb6⟩
      · obtain rfl : k = l.length := by omega
        obtain ⟨A6, cp6, rfl, hcp6⟩ := Own.shape hown
        have hr6 := Own.rows (c := Scr.cells) (fun _ => rfl) default hown
        rw [negL_len] at hr6 hcp6 ⊢
        have hM : RowsAt wr wr.heap.size 3 A6 l.length (fun i => ((fun j => (l.getD j default).neg) i).cells) := fun h0 => by
          obtain ⟨b, off, hA, hb, hc⟩ := hr6 h0
          refine ⟨b, off, hA, hb, fun i hi j u hu => hc i hi j u ?_⟩
          have e : (negL l l.length).getD i default = (l.getD i default).neg := by
            rw [negL, List.getD_eq_getElem?_getD, List.getElem?_map, List.getElem?_range hi]; rfl
          dsimp only
          rw [e]
          exact hu
        have hS := (hR.below hbr (Nat.le_refl _)).more hbr.size
        have hMb : ∀ k, k < l.length → -9223372036854775808 ≤ ((fun j => (l.getD j default).neg) k).unit ∧ ((fun j => (l.getD j default).neg) k).rng ≤ 9223372036854775807 := fun k hk => HRb.out k hk
        have hfin := hb.trans (hbr.mono hb.size)
        obtain ⟨LO, hLO⟩ : ∃ x, lowR (fun i => l.getD i default) n l.length = x := ⟨_, rfl⟩
        obtain ⟨HI, hHI⟩ : ∃ x, highR (fun i => l.getD i default) n l.length = x := ⟨_, rfl⟩
        have hl1 := lowR_neg (fun i => l.getD i default) n l.length
        have hl2 := highR_neg (fun i => l.getD i default) n l.length
        have hq1 := lowR_bd (fun i => l.getD i default) n l.length
        have hq2 := highR_bd (fun i => l.getD i default) n l.length
        rw [hHI] at hl1 hq2
        rw [hLO] at hl2 hq1
        have H1 := Lib.hid hl1
        have H2 := Lib.hid hl2
        have HLO := Lib.hid hLO
        have HHI := Lib.hid hHI
        have HMB := Lib.hid hMb
        clear hl1 hl2 hLO hHI hMb hr6 hown hbr hR hb
        go_wp2_with fail
        refine (lower68 A6 l.length cp6 (fun j => (l.getD j default).neg) n _ (by omega) hM HMB.out).mono ?_
        rintro e w4 ⟨rfl, hb4⟩
        rw [H1.out]
        replace hM := (hM.below hb4 (Nat.le_refl _)).more hb4.size
        replace hS := (hS.below hb4 (Nat.le_refl _)).more hb4.size
        replace hfin := below_trans' hfin hfin.size hb4
        clear hb4
        go_wp2_with fail
        refine (upper70 A l.length cp (fun i => l.getD i default) n _ (by omega) hS HRb.out).mono ?_
        rintro e w5 ⟨rfl, hb4⟩
        rw [HHI.out]
        replace hM := (hM.below hb4 (Nat.le_refl _)).more hb4.size
        replace hS := (hS.below hb4 (Nat.le_refl _)).more hb4.size
        replace hfin := below_trans' hfin hfin.size hb4
        clear hb4
        go_wp2_with fail
        refine (upper70 A6 l.length cp6 (fun j => (l.getD j default).neg) n _ (by omega) hM HMB.out).mono ?_
        rintro e w6 ⟨rfl, hb4⟩
        rw [H2.out]
        replace hS := (hS.below hb4 (Nat.le_refl _)).more hb4.size
        replace hfin := below_trans' hfin hfin.size hb4
        clear hb4
        go_wp2_with fail
        refine (lower68 A l.length cp (fun i => l.getD i default) n _ (by omega) hS HRb.out).mono ?_
        rintro e w7 ⟨rfl, hb4⟩
        rw [HLO.out]
        replace hfin := below_trans' hfin hfin.size hb4
        clear hb4
        go_wp2_with fail
        go_ret
        exact ⟨rfl, hfin⟩
end Go.Proofs.Ytgonighpjpfmnaa
