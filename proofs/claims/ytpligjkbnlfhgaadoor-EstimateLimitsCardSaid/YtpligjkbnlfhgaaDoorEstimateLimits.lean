/- The walk of EstimateLimits. -/
import Derived.Test.YtpligjkbnlfhgaaDoorNumC
namespace Go.Proofs.YtpligjkbnlfhgaaDoor
open Go.RowKit

/-- One number but the first. -/
def limF (x : Int) (i : Nat) : Int := if i = 0 then 0 else x
theorem sum_lim (x : Int) : ∀ n : Nat, sumF (limF x) (n + 1) = n * x
  | 0 => by simp [sumF, limF]
  | n + 1 => by rw [sumF, sum_lim x n]; simp [limF]; grind
/-- Ten of them, the fourth too great. -/
def bigF (x y : Int) (i : Nat) : Int := if i = 3 then y else limF x i
theorem lim_bad {x y : Int} (h : y < -1048576 ∨ 1048576 < y) : ¬ Fit (bigF x y) 10 := fun hh => by
  have := hh.2 3 (by decide)
  simp only [bigF, if_pos] at this
  omega
theorem lim_fit {x : Int} {n : Nat} (hx : -1048576 ≤ x ∧ x ≤ 1048576) (hn : n ≤ 512) : Fit (limF x) n := ⟨hn, fun i _ => by unfold limF; split <;> omega⟩
theorem BlkF.grow {w w' : World} {g x k c : Nat} {f : Nat → Int} (b : BlkF w g k c f) (h : w.grownBy w' (some x)) (hne : g ≠ x) : BlkF w' g k c f := by
  obtain ⟨cur, h1, h2, h3⟩ := b.blk
  exact ⟨⟨cur, by rw [h.block g (lt_of_blk h1) (fun e => by injection e with e; exact hne e)]; exact h1, h2, h3⟩, b.le, b.max⟩
theorem BlkF.part {w : World} {g k m c : Nat} {f : Nat → Int} (b : BlkF w g k c f) (h : m ≤ k) : BlkF w g m c f := by
  obtain ⟨cur, h1, h2, h3⟩ := b.blk
  exact ⟨⟨cur, h1, h2, fun i hi => h3 i (by omega)⟩, Nat.le_trans h b.le, b.max⟩
theorem own_only {g B n c : Nat} (h : B ≤ g) : ∀ q, (Value.slice (some ⟨g, 0, none⟩) n c).ownBlock = some q → B ≤ q := fun q hq => by
  have : g = q := by simpa [Value.ownBlock] using hq
  omega
theorem own_nothing {w : World} {g B : Nat} (hg : w.heap[g]? = some (.cells #[] 3 (0, 0))) (hB : B ≤ g) : w.ownsRow B 3 1 (.slice (some ⟨g, 0, none⟩) 0 0) 0 [] :=
  ⟨by simp, .inr ⟨g, 0, #[], rfl, hB, hg, Nat.le_refl _, Nat.zero_le _, by simp, by simp⟩⟩

set_option maxRecDepth 100000 in
set_option maxHeartbeats 16000000 in
theorem estimateLimits13 (a0 : Int) (a1 : Bool) (w : World) (w0 : (Lit.int .u8 a0).wf = true) :
    Calls Tryd.prog 13 #[.int .u8 a0, .bool a1] w fun e w' => e = .returned (.bool true) ∧ Below w.heap.size w w' := by
  have h0 := bounds_u8 w0
  obtain ⟨i0, hi, hz0, hz1, hz2⟩ := info_parts info3n
  obtain ⟨d, hd⟩ : ∃ d : Int, a0.tmod 5 = d := ⟨_, rfl⟩
  have hdb : 0 ≤ d ∧ d ≤ 4 := by rw [← hd, Int.tmod_eq_emod_of_nonneg h0.1]; omega
  obtain ⟨n, hn⟩ : ∃ n : Nat, 510 + d = (n : Int) := ⟨(510 + d).toNat, by omega⟩
  have hnb : 510 ≤ n ∧ n ≤ 514 := by omega
  clear w0
  go_enter Tryd.func13, Tryd.ntmps13
  go_wp2_with fail
  refine (awake35 w).mono ?_
  rintro e u0 ⟨rfl, hb0⟩
  cases a1
  · go_wp2_with fail
    go_loopg [7, 8] (n + 1) (fun m s i wr => ∃ (k cs : Nat) (As : Option Addr) (l : List Int), k ≤ n ∧ m = n + 1 - k ∧ i = .int .i64 k ∧ s = .slice As k cs ∧ l.length = k ∧ Hid (∀ i, i < k → l.getD i 0 = 1048576) ∧ Own intC 3 1 wr w.heap.size (.slice As k cs) l ∧ Below w.heap.size w wr)
    case atStart => exact ⟨0, 0, none, [], by omega, rfl, rfl, rfl, rfl, Lib.hid (fun i h => absurd h (by omega)), Own.nil _ _ _ _ _, hb0⟩
    case round =>
    clear hb0
    obtain ⟨k, cs, As, l, hl, hm, rfl, rfl, rfl, hgood, hown, hbr⟩ := hrel
    have HM := Lib.hid hm
    clear hm
    by_cases hlt : l.length < n
    · have hltI : (l.length : Int) < n := by omega
      have hsz := hbr.size
      go_wp2_with (at_builtin; refine wpList_append_lies _ (by rfl) (.tmp 38) (.tmp 40) 27 (by rfl) w.heap.size 3 i0 _ 1 8 Tryd.underlying27 hi hz0 hz1 hz2 rfl (by omega) _ _ _ (by rfl) (World.ownsRow.alloc hown _) ⟨wr.heap.size, 0, none⟩ 1 1 [.int .i64 1048576] (by rfl) (by rfl) (World.news_of_block (heap_alloc_new wr _)) (by simp [Value.oneCell']) (by omega) (by unfold maxLen; omega) (by omega) (by simp; omega) (wr.heap.size + 1) (by simp) ?_; intro g' cap' w6 hown6 hgrow hat hlt6)
      have hb6 : Below w.heap.size w w6 := (hbr.alloc hbr.size _).grown hgrow (by simp; omega) (fun q hq => (World.ownsRow.lt hown q hq).1)
      have ho6 : Own intC 3 1 w6 w.heap.size (.slice (some ⟨g', 0, none⟩) (l.length + 1) cap') (l ++ [1048576]) := Own.snoc (c := intC) hown6
      clear hown6 hgrow hat hown hbr
      go_roundg (n + 1 - (l.length + 1))
      case measure => have := HM.out; omega
      case rel => exact ⟨l.length + 1, cap', some ⟨g', 0, none⟩, _, by omega, rfl, by go_num, rfl, by simp, Lib.hid (getD_snoc hgood.out rfl), ho6, hb6⟩
    · have hln : l.length = n := by omega
      have hsum : OwnF wr w.heap.size (.slice As l.length cs) l.length (fun _ => 1048576) := ⟨l, rfl, hgood.out, hown⟩
      rw [hln] at hsum ⊢
      obtain ⟨g, rfl, hg, B1⟩ := hsum.blk (by omega)
      have hltI : ¬ (n : Int) < n := by omega
      have h0I : (0 : Int) < n := by omega
      have h10 : 10 ≤ cs := by have := B1.le; omega
      have f1 := B1.free
      have x0 := B1.cell (i := 0) (by omega)
      have hgl := B1.lt
      have hsz := hbr.size
      have q0 := ((B1.set 0 0).congr (f' := limF 1048576) (fun i _ => rfl)).below ((Below.refl (wr.setCell ⟨g, 0, none⟩ (.int .i64 0)).heap.size _).alloc (Nat.le_refl _) (.cells #[] 3))
      have hbr2 := (hbr.setCell (p := ⟨g, 0, none⟩) hg (.int .i64 0)).alloc (by simpa [World.setCell] using hsz) (.cells #[] 3)
      have hz : (wr.setCell ⟨g, 0, none⟩ (.int .i64 0)).heap.size = wr.heap.size := by simp [World.setCell]
      have hnew := heap_alloc_new (wr.setCell ⟨g, 0, none⟩ (.int .i64 0)) (.cells #[] 3)
      rw [hz] at hnew
      have hW1 : ((wr.setCell ⟨g, 0, none⟩ (.int .i64 0)).alloc (.cells #[] 3)).heap.size = wr.heap.size + 1 := by simp [World.setCell]
      have hnw : ∀ j u, ([.int .i64 0, .int .i64 1048576, .int .i64 1048576, .int .i64 1048576, .int .i64 1048576, .int .i64 1048576, .int .i64 1048576, .int .i64 1048576, .int .i64 1048576, .int .i64 1048576] : List Value)[j]? = some u → ((wr.setCell ⟨g, 0, none⟩ (.int .i64 0)).alloc (.cells #[] 3)).cell? ((⟨g, 0, none⟩ : Addr).add j) = some u := fun j u hu => by
        have hj : j < 10 := (List.getElem?_eq_some_iff.1 hu).1
        rw [Go.WideShapes.add_plain, Nat.zero_add, q0.cell (by omega), ← hu]
        match j, hj with
        | 0, _ => rfl
        | 1, _ => rfl
        | 2, _ => rfl
        | 3, _ => rfl
        | 4, _ => rfl
        | 5, _ => rfl
        | 6, _ => rfl
        | 7, _ => rfl
        | 8, _ => rfl
        | 9, _ => rfl
        | j + 10, h => exact absurd h (by omega)
      have HN := Lib.hid hnw
      have K6 : Hid (∀ g' cap' w6, w6.ownsRow wr.heap.size 3 1 (.slice (some ⟨g', 0, none⟩) (0 + 10) cap') (0 + 10) ([] ++ [.int .i64 0, .int .i64 1048576, .int .i64 1048576, .int .i64 1048576, .int .i64 1048576, .int .i64 1048576, .int .i64 1048576, .int .i64 1048576, .int .i64 1048576, .int .i64 1048576]) → ((wr.setCell ⟨g, 0, none⟩ (.int .i64 0)).alloc (.cells #[] 3)).grownBy w6 (Value.slice (some ⟨wr.heap.size, 0, none⟩) 0 0).ownBlock → Below w.heap.size w w6 ∧ BlkF w6 g n cs (limF 1048576) ∧ BlkF w6 g' 10 cap' (limF 1048576) ∧ g' ≠ g ∧ w.heap.size ≤ g') := Lib.hid fun g' cap' w6 hown6 hgrow => by
        have hb6 := hbr2.grown hgrow (by rw [hW1]; omega) (own_only hsz)
        have q := q0.grow hgrow (show g ≠ wr.heap.size by omega)
        have ho6 : OwnF w6 wr.heap.size (.slice (some ⟨g', 0, none⟩) 10 cap') 10 (limF 1048576) := ⟨[0, 1048576, 1048576, 1048576, 1048576, 1048576, 1048576, 1048576, 1048576, 1048576], rfl, fun i hi => by
          match i, hi with
          | 0, _ => rfl
          | 1, _ => rfl
          | 2, _ => rfl
          | 3, _ => rfl
          | 4, _ => rfl
          | 5, _ => rfl
          | 6, _ => rfl
          | 7, _ => rfl
          | 8, _ => rfl
          | 9, _ => rfl
          | i + 10, h => exact absurd h (by omega), hown6⟩
        obtain ⟨g2, he2, hg2, qb⟩ := ho6.blk (by omega)
        injection he2 with he2
        injection he2 with he2
        subst he2
        exact ⟨hb6, q, qb, by omega, by omega⟩
      clear hsum hgood hown hln hlt hl HM hbr B1 hnw hz
      go_wp2_with (at_builtin; refine wpList_append_lies _ (by rfl) (.tmp 44) (.tmp 46) 27 (by rfl) wr.heap.size 3 i0 _ 1 8 Tryd.underlying27 hi hz0 hz1 hz2 rfl (by omega) _ 0 [] (by rfl) (own_nothing hnew (Nat.le_refl _)) ⟨g, 0, none⟩ 10 cs [.int .i64 0, .int .i64 1048576, .int .i64 1048576, .int .i64 1048576, .int .i64 1048576, .int .i64 1048576, .int .i64 1048576, .int .i64 1048576, .int .i64 1048576, .int .i64 1048576] (by rfl) (by rfl) HN.out (by simp [Value.oneCell']) (by omega) (by unfold maxLen; omega) (by omega) (by rw [hW1]; omega) (wr.heap.size + 1) hW1 ?_; intro g' cap' w6 hown6 hgrow hat hlt6; obtain ⟨hb6, q, qb, ne1, hwg⟩ := K6.out _ _ _ hown6 hgrow; have f2 := qb.free; have x3 := qb.cell (i := 3) (by omega); clear hown6 hgrow hat hlt6 HN hnew hW1 q0 hbr2 f1 x0 K6)
      rcases (show n ≤ 512 ∨ ¬ n ≤ 512 by omega) with hn5 | hn5
      · have hn5I : (n : Int) ≤ 512 := by omega
        have q1 := q.other ne1 3 (.int .i64 1048577)
        have qb1 := (qb.set 3 1048577).congr (f' := bigF 1048576 1048577) (fun i _ => rfl)
        have hbr := hb6.setCell (p := ⟨g', 3, none⟩) hwg (.int .i64 1048577)
        have C5 := Lib.hid (fun w (h : BlkF w g' 10 cap' (bigF 1048576 1048577)) => mean44_bad _ 10 cap' _ w h.ints (fun h => lim_bad (by omega) h.2))
        have C6 := Lib.hid (fun w (h : BlkF w g' 10 cap' (bigF 1048576 1048577)) => of36_bad _ 10 cap' _ w h.ints (fun h => lim_bad (by omega) h.2))
        have C7 := Lib.hid (fun w (h : BlkF w g n cs (limF 1048576)) (h' : BlkF w g' 10 cap' (bigF 1048576 1048577)) => ratio45_bad _ _ 10 10 cs cap' _ _ w (h.part (by omega)).ints h'.ints (fun h => lim_bad (by omega) h.2.2.2))
        clear q qb hb6
        have hF : Fit (limF 1048576) n := lim_fit (by decide) hn5
        have h2 : 2 ≤ n := by omega
        have hs0 : sumF (limF 1048576) n ≠ 0 := by
          obtain ⟨m, rfl⟩ : ∃ m, n = m + 1 := ⟨n - 1, by omega⟩
          rw [sum_lim]; omega
        obtain ⟨M1, M2, -, T1⟩ := txV_tx ((mean_E2 hF (by omega)).fits (by decide) (by decide))
        obtain ⟨V1, V2, -, T2⟩ := txV_tx ((var_E2 hF h2).fits (by decide) (by decide))
        obtain ⟨P1, P2, -, T3⟩ := txV_tx ((cov_E2 hF hF h2).fits (by decide) (by decide))
        obtain ⟨R1, R2, -, T4⟩ := txV_tx ((ratR_E2 hF hF hs0).fits (by decide) (by decide))
        obtain ⟨S1, S2, -, T5⟩ := txV_tx ((ratV_E2 hF hF h2 hs0).fits (by decide) (by decide))
        have C1 := Lib.hid (fun w (h : BlkF w g n cs (limF 1048576)) => of36 _ n cs _ M1 M2 V1 V2 w h.ints hF h2 T1 T2)
        have C2 := Lib.hid (fun w (h : BlkF w g n cs (limF 1048576)) => mean44 _ n cs _ M1 M2 w h.ints hF (by omega) T1)
        have C3 := Lib.hid (fun w (h : BlkF w g n cs (limF 1048576)) => covariance43 _ _ n cs cs _ _ P1 P2 w h.ints h.ints hF hF h2 T3)
        have C4 := Lib.hid (fun w (h : BlkF w g n cs (limF 1048576)) => ratio45 _ _ n cs cs _ _ R1 R2 S1 S2 w h.ints h.ints hF hF h2 hs0 T4 T5)
        clear T1 T2 T3 T4 T5 hF hs0
        go_wp2_with fail
        generalize (w6.setCell ⟨g', 3, none⟩ (.int .i64 1048577)) = wv at *
        have q := q1
        have qb := qb1
        clear q1 qb1 f2 x3
        refine (C1.out _ q).mono ?_
        rintro e w1 ⟨rfl, hbq⟩
        have hst := below_trans' hbq hbq.size ((Below.refl w1.heap.size w1).alloc (Nat.le_refl _) (.cells #[.int .i64 n, .string M1, .string M2, .string V1, .string V2] 48))
        have t1 := heap_alloc_new w1 (.cells #[.int .i64 n, .string M1, .string M2, .string V1, .string V2] 48)
        replace q := q.below hst
        replace qb := qb.below hst
        replace hbr := below_trans' hbr hbr.size hst
        clear hst hbq
        go_wp2_with fail
        generalize w1.alloc (.cells #[.int .i64 n, .string M1, .string M2, .string V1, .string V2] 48) = v1 at *
        generalize w1.heap.size = N1 at *
        refine (C2.out _ q).mono ?_
        rintro e w2 ⟨rfl, hbq⟩
        have hst := below_trans' hbq hbq.size ((Below.refl w2.heap.size w2).alloc (Nat.le_refl _) (.cells #[.string M1, .string M2] 23))
        have t2 := heap_alloc_new w2 (.cells #[.string M1, .string M2] 23)
        replace q := q.below hst
        replace qb := qb.below hst
        replace hbr := below_trans' hbr hbr.size hst
        clear hst hbq
        go_wp2_with fail
        generalize w2.alloc (.cells #[.string M1, .string M2] 23) = v2 at *
        generalize w2.heap.size = N2 at *
        refine (C3.out _ q).mono ?_
        rintro e w3 ⟨rfl, hbq⟩
        have hst := below_trans' hbq hbq.size ((Below.refl w3.heap.size w3).alloc (Nat.le_refl _) (.cells #[.string P1, .string P2] 23))
        have t3 := heap_alloc_new w3 (.cells #[.string P1, .string P2] 23)
        replace q := q.below hst
        replace qb := qb.below hst
        replace hbr := below_trans' hbr hbr.size hst
        clear hst hbq
        go_wp2_with fail
        generalize w3.alloc (.cells #[.string P1, .string P2] 23) = v3 at *
        generalize w3.heap.size = N3 at *
        refine (C4.out _ q).mono ?_
        rintro e w4 ⟨rfl, hbq⟩
        have hst := below_trans' hbq hbq.size ((Below.refl w4.heap.size w4).alloc (Nat.le_refl _) (.cells #[.int .i64 n, .string R1, .string R2, .string S1, .string S2] 48))
        have t4 := heap_alloc_new w4 (.cells #[.int .i64 n, .string R1, .string R2, .string S1, .string S2] 48)
        replace q := q.below hst
        replace qb := qb.below hst
        replace hbr := below_trans' hbr hbr.size hst
        clear hst hbq
        go_wp2_with fail
        generalize w4.alloc (.cells #[.int .i64 n, .string R1, .string R2, .string S1, .string S2] 48) = v4 at *
        generalize w4.heap.size = N4 at *
        refine (C5.out _ qb).mono ?_
        rintro e w5 ⟨rfl, hbq⟩
        have hst := below_trans' hbq hbq.size ((Below.refl w5.heap.size w5).alloc (Nat.le_refl _) (.cells #[.string ⟨#[]⟩, .string ⟨#[]⟩] 23))
        have t5 := heap_alloc_new w5 (.cells #[.string ⟨#[]⟩, .string ⟨#[]⟩] 23)
        replace q := q.below hst
        replace qb := qb.below hst
        replace hbr := below_trans' hbr hbr.size hst
        clear hst hbq
        go_wp2_with fail
        generalize w5.alloc (.cells #[.string ⟨#[]⟩, .string ⟨#[]⟩] 23) = v5 at *
        generalize w5.heap.size = N5 at *
        refine (C6.out _ qb).mono ?_
        rintro e w6 ⟨rfl, hbq⟩
        have hst := below_trans' hbq hbq.size ((Below.refl w6.heap.size w6).alloc (Nat.le_refl _) (.cells #[.int .i64 0, .string ⟨#[]⟩, .string ⟨#[]⟩, .string ⟨#[]⟩, .string ⟨#[]⟩] 48))
        have t6 := heap_alloc_new w6 (.cells #[.int .i64 0, .string ⟨#[]⟩, .string ⟨#[]⟩, .string ⟨#[]⟩, .string ⟨#[]⟩] 48)
        replace q := q.below hst
        replace qb := qb.below hst
        replace hbr := below_trans' hbr hbr.size hst
        clear hst hbq
        go_wp2_with fail
        generalize w6.alloc (.cells #[.int .i64 0, .string ⟨#[]⟩, .string ⟨#[]⟩, .string ⟨#[]⟩, .string ⟨#[]⟩] 48) = v6 at *
        generalize w6.heap.size = N6 at *
        refine (C7.out _ q qb).mono ?_
        rintro e w7 ⟨rfl, hbq⟩
        have hbe := below_trans' hbr hbr.size (below_trans' hbq hbq.size ((Below.refl w7.heap.size w7).alloc (Nat.le_refl _) (.cells #[.int .i64 0, .string ⟨#[]⟩, .string ⟨#[]⟩, .string ⟨#[]⟩, .string ⟨#[]⟩] 48)))
        clear hbq hbr
        go_wp2_with fail
        go_ret
        exact ⟨rfl, hbe⟩
      · have hn5I : ¬ (n : Int) ≤ 512 := by omega
        have hn5B : decide ((n : Int) ≤ 512) = false := decide_eq_false hn5I
        have q1 := q.other ne1 3 (.int .i64 1048577)
        have qb1 := (qb.set 3 1048577).congr (f' := bigF 1048576 1048577) (fun i _ => rfl)
        have hbr := hb6.setCell (p := ⟨g', 3, none⟩) hwg (.int .i64 1048577)
        have C5 := Lib.hid (fun w (h : BlkF w g' 10 cap' (bigF 1048576 1048577)) => mean44_bad _ 10 cap' _ w h.ints (fun h => lim_bad (by omega) h.2))
        have C6 := Lib.hid (fun w (h : BlkF w g' 10 cap' (bigF 1048576 1048577)) => of36_bad _ 10 cap' _ w h.ints (fun h => lim_bad (by omega) h.2))
        have C7 := Lib.hid (fun w (h : BlkF w g n cs (limF 1048576)) (h' : BlkF w g' 10 cap' (bigF 1048576 1048577)) => ratio45_bad _ _ 10 10 cs cap' _ _ w (h.part (by omega)).ints h'.ints (fun h => lim_bad (by omega) h.2.2.2))
        clear q qb hb6
        have hF : ∀ l, ¬ (l ≤ n ∧ Fit (limF 1048576) n) := fun l h => hn5 h.2.1
        have C1 := Lib.hid (fun w (h : BlkF w g n cs (limF 1048576)) => of36_bad _ n cs _ w h.ints (hF 2))
        have C2 := Lib.hid (fun w (h : BlkF w g n cs (limF 1048576)) => mean44_bad _ n cs _ w h.ints (hF 1))
        have C3 := Lib.hid (fun w (h : BlkF w g n cs (limF 1048576)) => covariance43_bad _ _ n n cs cs _ _ w h.ints h.ints (fun h => hF 2 ⟨h.2.1, h.2.2.1⟩))
        have C4 := Lib.hid (fun w (h : BlkF w g n cs (limF 1048576)) => ratio45_bad _ _ n n cs cs _ _ w h.ints h.ints (fun h => hF 2 ⟨h.2.1, h.2.2.1⟩))
        clear hF
        go_wp2_with fail
        generalize (w6.setCell ⟨g', 3, none⟩ (.int .i64 1048577)) = wv at *
        have q := q1
        have qb := qb1
        clear q1 qb1 f2 x3
        refine (C1.out _ q).mono ?_
        rintro e w1 ⟨rfl, hbq⟩
        have hst := below_trans' hbq hbq.size ((Below.refl w1.heap.size w1).alloc (Nat.le_refl _) (.cells #[.int .i64 0, .string ⟨#[]⟩, .string ⟨#[]⟩, .string ⟨#[]⟩, .string ⟨#[]⟩] 48))
        have t1 := heap_alloc_new w1 (.cells #[.int .i64 0, .string ⟨#[]⟩, .string ⟨#[]⟩, .string ⟨#[]⟩, .string ⟨#[]⟩] 48)
        replace q := q.below hst
        replace qb := qb.below hst
        replace hbr := below_trans' hbr hbr.size hst
        clear hst hbq
        go_wp2_with fail
        generalize w1.alloc (.cells #[.int .i64 0, .string ⟨#[]⟩, .string ⟨#[]⟩, .string ⟨#[]⟩, .string ⟨#[]⟩] 48) = v1 at *
        generalize w1.heap.size = N1 at *
        refine (C2.out _ q).mono ?_
        rintro e w2 ⟨rfl, hbq⟩
        have hst := below_trans' hbq hbq.size ((Below.refl w2.heap.size w2).alloc (Nat.le_refl _) (.cells #[.string ⟨#[]⟩, .string ⟨#[]⟩] 23))
        have t2 := heap_alloc_new w2 (.cells #[.string ⟨#[]⟩, .string ⟨#[]⟩] 23)
        replace q := q.below hst
        replace qb := qb.below hst
        replace hbr := below_trans' hbr hbr.size hst
        clear hst hbq
        go_wp2_with fail
        generalize w2.alloc (.cells #[.string ⟨#[]⟩, .string ⟨#[]⟩] 23) = v2 at *
        generalize w2.heap.size = N2 at *
        refine (C3.out _ q).mono ?_
        rintro e w3 ⟨rfl, hbq⟩
        have hst := below_trans' hbq hbq.size ((Below.refl w3.heap.size w3).alloc (Nat.le_refl _) (.cells #[.string ⟨#[]⟩, .string ⟨#[]⟩] 23))
        have t3 := heap_alloc_new w3 (.cells #[.string ⟨#[]⟩, .string ⟨#[]⟩] 23)
        replace q := q.below hst
        replace qb := qb.below hst
        replace hbr := below_trans' hbr hbr.size hst
        clear hst hbq
        go_wp2_with fail
        generalize w3.alloc (.cells #[.string ⟨#[]⟩, .string ⟨#[]⟩] 23) = v3 at *
        generalize w3.heap.size = N3 at *
        refine (C4.out _ q).mono ?_
        rintro e w4 ⟨rfl, hbq⟩
        have hst := below_trans' hbq hbq.size ((Below.refl w4.heap.size w4).alloc (Nat.le_refl _) (.cells #[.int .i64 0, .string ⟨#[]⟩, .string ⟨#[]⟩, .string ⟨#[]⟩, .string ⟨#[]⟩] 48))
        have t4 := heap_alloc_new w4 (.cells #[.int .i64 0, .string ⟨#[]⟩, .string ⟨#[]⟩, .string ⟨#[]⟩, .string ⟨#[]⟩] 48)
        replace q := q.below hst
        replace qb := qb.below hst
        replace hbr := below_trans' hbr hbr.size hst
        clear hst hbq
        go_wp2_with fail
        generalize w4.alloc (.cells #[.int .i64 0, .string ⟨#[]⟩, .string ⟨#[]⟩, .string ⟨#[]⟩, .string ⟨#[]⟩] 48) = v4 at *
        generalize w4.heap.size = N4 at *
        refine (C5.out _ qb).mono ?_
        rintro e w5 ⟨rfl, hbq⟩
        have hst := below_trans' hbq hbq.size ((Below.refl w5.heap.size w5).alloc (Nat.le_refl _) (.cells #[.string ⟨#[]⟩, .string ⟨#[]⟩] 23))
        have t5 := heap_alloc_new w5 (.cells #[.string ⟨#[]⟩, .string ⟨#[]⟩] 23)
        replace q := q.below hst
        replace qb := qb.below hst
        replace hbr := below_trans' hbr hbr.size hst
        clear hst hbq
        go_wp2_with fail
        generalize w5.alloc (.cells #[.string ⟨#[]⟩, .string ⟨#[]⟩] 23) = v5 at *
        generalize w5.heap.size = N5 at *
        refine (C6.out _ qb).mono ?_
        rintro e w6 ⟨rfl, hbq⟩
        have hst := below_trans' hbq hbq.size ((Below.refl w6.heap.size w6).alloc (Nat.le_refl _) (.cells #[.int .i64 0, .string ⟨#[]⟩, .string ⟨#[]⟩, .string ⟨#[]⟩, .string ⟨#[]⟩] 48))
        have t6 := heap_alloc_new w6 (.cells #[.int .i64 0, .string ⟨#[]⟩, .string ⟨#[]⟩, .string ⟨#[]⟩, .string ⟨#[]⟩] 48)
        replace q := q.below hst
        replace qb := qb.below hst
        replace hbr := below_trans' hbr hbr.size hst
        clear hst hbq
        go_wp2_with fail
        generalize w6.alloc (.cells #[.int .i64 0, .string ⟨#[]⟩, .string ⟨#[]⟩, .string ⟨#[]⟩, .string ⟨#[]⟩] 48) = v6 at *
        generalize w6.heap.size = N6 at *
        refine (C7.out _ q qb).mono ?_
        rintro e w7 ⟨rfl, hbq⟩
        have hbe := below_trans' hbr hbr.size (below_trans' hbq hbq.size ((Below.refl w7.heap.size w7).alloc (Nat.le_refl _) (.cells #[.int .i64 0, .string ⟨#[]⟩, .string ⟨#[]⟩, .string ⟨#[]⟩, .string ⟨#[]⟩] 48)))
        clear hbq hbr
        go_wp2_with fail
        go_ret
        exact ⟨rfl, hbe⟩
  · go_wp2_with fail
    go_loopg [7, 8] (n + 1) (fun m s i wr => ∃ (k cs : Nat) (As : Option Addr) (l : List Int), k ≤ n ∧ m = n + 1 - k ∧ i = .int .i64 k ∧ s = .slice As k cs ∧ l.length = k ∧ Hid (∀ i, i < k → l.getD i 0 = (-1048576)) ∧ Own intC 3 1 wr w.heap.size (.slice As k cs) l ∧ Below w.heap.size w wr)
    case atStart => exact ⟨0, 0, none, [], by omega, rfl, rfl, rfl, rfl, Lib.hid (fun i h => absurd h (by omega)), Own.nil _ _ _ _ _, hb0⟩
    case round =>
    clear hb0
    obtain ⟨k, cs, As, l, hl, hm, rfl, rfl, rfl, hgood, hown, hbr⟩ := hrel
    have HM := Lib.hid hm
    clear hm
    by_cases hlt : l.length < n
    · have hltI : (l.length : Int) < n := by omega
      have hsz := hbr.size
      go_wp2_with (at_builtin; refine wpList_append_lies _ (by rfl) (.tmp 38) (.tmp 40) 27 (by rfl) w.heap.size 3 i0 _ 1 8 Tryd.underlying27 hi hz0 hz1 hz2 rfl (by omega) _ _ _ (by rfl) (World.ownsRow.alloc hown _) ⟨wr.heap.size, 0, none⟩ 1 1 [.int .i64 (-1048576)] (by rfl) (by rfl) (World.news_of_block (heap_alloc_new wr _)) (by simp [Value.oneCell']) (by omega) (by unfold maxLen; omega) (by omega) (by simp; omega) (wr.heap.size + 1) (by simp) ?_; intro g' cap' w6 hown6 hgrow hat hlt6)
      have hb6 : Below w.heap.size w w6 := (hbr.alloc hbr.size _).grown hgrow (by simp; omega) (fun q hq => (World.ownsRow.lt hown q hq).1)
      have ho6 : Own intC 3 1 w6 w.heap.size (.slice (some ⟨g', 0, none⟩) (l.length + 1) cap') (l ++ [(-1048576)]) := Own.snoc (c := intC) hown6
      clear hown6 hgrow hat hown hbr
      go_roundg (n + 1 - (l.length + 1))
      case measure => have := HM.out; omega
      case rel => exact ⟨l.length + 1, cap', some ⟨g', 0, none⟩, _, by omega, rfl, by go_num, rfl, by simp, Lib.hid (getD_snoc hgood.out rfl), ho6, hb6⟩
    · have hln : l.length = n := by omega
      have hsum : OwnF wr w.heap.size (.slice As l.length cs) l.length (fun _ => (-1048576)) := ⟨l, rfl, hgood.out, hown⟩
      rw [hln] at hsum ⊢
      obtain ⟨g, rfl, hg, B1⟩ := hsum.blk (by omega)
      have hltI : ¬ (n : Int) < n := by omega
      have h0I : (0 : Int) < n := by omega
      have h10 : 10 ≤ cs := by have := B1.le; omega
      have f1 := B1.free
      have x0 := B1.cell (i := 0) (by omega)
      have hgl := B1.lt
      have hsz := hbr.size
      have q0 := ((B1.set 0 0).congr (f' := limF (-1048576)) (fun i _ => rfl)).below ((Below.refl (wr.setCell ⟨g, 0, none⟩ (.int .i64 0)).heap.size _).alloc (Nat.le_refl _) (.cells #[] 3))
      have hbr2 := (hbr.setCell (p := ⟨g, 0, none⟩) hg (.int .i64 0)).alloc (by simpa [World.setCell] using hsz) (.cells #[] 3)
      have hz : (wr.setCell ⟨g, 0, none⟩ (.int .i64 0)).heap.size = wr.heap.size := by simp [World.setCell]
      have hnew := heap_alloc_new (wr.setCell ⟨g, 0, none⟩ (.int .i64 0)) (.cells #[] 3)
      rw [hz] at hnew
      have hW1 : ((wr.setCell ⟨g, 0, none⟩ (.int .i64 0)).alloc (.cells #[] 3)).heap.size = wr.heap.size + 1 := by simp [World.setCell]
      have hnw : ∀ j u, ([.int .i64 0, .int .i64 (-1048576), .int .i64 (-1048576), .int .i64 (-1048576), .int .i64 (-1048576), .int .i64 (-1048576), .int .i64 (-1048576), .int .i64 (-1048576), .int .i64 (-1048576), .int .i64 (-1048576)] : List Value)[j]? = some u → ((wr.setCell ⟨g, 0, none⟩ (.int .i64 0)).alloc (.cells #[] 3)).cell? ((⟨g, 0, none⟩ : Addr).add j) = some u := fun j u hu => by
        have hj : j < 10 := (List.getElem?_eq_some_iff.1 hu).1
        rw [Go.WideShapes.add_plain, Nat.zero_add, q0.cell (by omega), ← hu]
        match j, hj with
        | 0, _ => rfl
        | 1, _ => rfl
        | 2, _ => rfl
        | 3, _ => rfl
        | 4, _ => rfl
        | 5, _ => rfl
        | 6, _ => rfl
        | 7, _ => rfl
        | 8, _ => rfl
        | 9, _ => rfl
        | j + 10, h => exact absurd h (by omega)
      have HN := Lib.hid hnw
      have K6 : Hid (∀ g' cap' w6, w6.ownsRow wr.heap.size 3 1 (.slice (some ⟨g', 0, none⟩) (0 + 10) cap') (0 + 10) ([] ++ [.int .i64 0, .int .i64 (-1048576), .int .i64 (-1048576), .int .i64 (-1048576), .int .i64 (-1048576), .int .i64 (-1048576), .int .i64 (-1048576), .int .i64 (-1048576), .int .i64 (-1048576), .int .i64 (-1048576)]) → ((wr.setCell ⟨g, 0, none⟩ (.int .i64 0)).alloc (.cells #[] 3)).grownBy w6 (Value.slice (some ⟨wr.heap.size, 0, none⟩) 0 0).ownBlock → Below w.heap.size w w6 ∧ BlkF w6 g n cs (limF (-1048576)) ∧ BlkF w6 g' 10 cap' (limF (-1048576)) ∧ g' ≠ g ∧ w.heap.size ≤ g') := Lib.hid fun g' cap' w6 hown6 hgrow => by
        have hb6 := hbr2.grown hgrow (by rw [hW1]; omega) (own_only hsz)
        have q := q0.grow hgrow (show g ≠ wr.heap.size by omega)
        have ho6 : OwnF w6 wr.heap.size (.slice (some ⟨g', 0, none⟩) 10 cap') 10 (limF (-1048576)) := ⟨[0, (-1048576), (-1048576), (-1048576), (-1048576), (-1048576), (-1048576), (-1048576), (-1048576), (-1048576)], rfl, fun i hi => by
          match i, hi with
          | 0, _ => rfl
          | 1, _ => rfl
          | 2, _ => rfl
          | 3, _ => rfl
          | 4, _ => rfl
          | 5, _ => rfl
          | 6, _ => rfl
          | 7, _ => rfl
          | 8, _ => rfl
          | 9, _ => rfl
          | i + 10, h => exact absurd h (by omega), hown6⟩
        obtain ⟨g2, he2, hg2, qb⟩ := ho6.blk (by omega)
        injection he2 with he2
        injection he2 with he2
        subst he2
        exact ⟨hb6, q, qb, by omega, by omega⟩
      clear hsum hgood hown hln hlt hl HM hbr B1 hnw hz
      go_wp2_with (at_builtin; refine wpList_append_lies _ (by rfl) (.tmp 44) (.tmp 46) 27 (by rfl) wr.heap.size 3 i0 _ 1 8 Tryd.underlying27 hi hz0 hz1 hz2 rfl (by omega) _ 0 [] (by rfl) (own_nothing hnew (Nat.le_refl _)) ⟨g, 0, none⟩ 10 cs [.int .i64 0, .int .i64 (-1048576), .int .i64 (-1048576), .int .i64 (-1048576), .int .i64 (-1048576), .int .i64 (-1048576), .int .i64 (-1048576), .int .i64 (-1048576), .int .i64 (-1048576), .int .i64 (-1048576)] (by rfl) (by rfl) HN.out (by simp [Value.oneCell']) (by omega) (by unfold maxLen; omega) (by omega) (by rw [hW1]; omega) (wr.heap.size + 1) hW1 ?_; intro g' cap' w6 hown6 hgrow hat hlt6; obtain ⟨hb6, q, qb, ne1, hwg⟩ := K6.out _ _ _ hown6 hgrow; have f2 := qb.free; have x3 := qb.cell (i := 3) (by omega); clear hown6 hgrow hat hlt6 HN hnew hW1 q0 hbr2 f1 x0 K6)
      rcases (show n ≤ 512 ∨ ¬ n ≤ 512 by omega) with hn5 | hn5
      · have hn5I : (n : Int) ≤ 512 := by omega
        have q1 := (q.other ne1 3 (.int .i64 (-1048575))).other ne1 3 (.int .i64 (-1048577))
        have qb1 := ((qb.set 3 (-1048575)).set 3 (-1048577)).congr (f' := bigF (-1048576) (-1048577)) (fun i _ => by unfold bigF; split <;> first | rfl | (rename_i h; rw [if_neg h]))
        have hbr := (hb6.setCell (p := ⟨g', 3, none⟩) hwg (.int .i64 (-1048575))).setCell (p := ⟨g', 3, none⟩) hwg (.int .i64 (-1048577))
        have C5 := Lib.hid (fun w (h : BlkF w g' 10 cap' (bigF (-1048576) (-1048577))) => mean44_bad _ 10 cap' _ w h.ints (fun h => lim_bad (by omega) h.2))
        have C6 := Lib.hid (fun w (h : BlkF w g' 10 cap' (bigF (-1048576) (-1048577))) => of36_bad _ 10 cap' _ w h.ints (fun h => lim_bad (by omega) h.2))
        have C7 := Lib.hid (fun w (h : BlkF w g n cs (limF (-1048576))) (h' : BlkF w g' 10 cap' (bigF (-1048576) (-1048577))) => ratio45_bad _ _ 10 10 cs cap' _ _ w (h.part (by omega)).ints h'.ints (fun h => lim_bad (by omega) h.2.2.2))
        clear q qb hb6
        have hF : Fit (limF (-1048576)) n := lim_fit (by decide) hn5
        have h2 : 2 ≤ n := by omega
        have hs0 : sumF (limF (-1048576)) n ≠ 0 := by
          obtain ⟨m, rfl⟩ : ∃ m, n = m + 1 := ⟨n - 1, by omega⟩
          rw [sum_lim]; omega
        obtain ⟨M1, M2, -, T1⟩ := txV_tx ((mean_E2 hF (by omega)).fits (by decide) (by decide))
        obtain ⟨V1, V2, -, T2⟩ := txV_tx ((var_E2 hF h2).fits (by decide) (by decide))
        obtain ⟨P1, P2, -, T3⟩ := txV_tx ((cov_E2 hF hF h2).fits (by decide) (by decide))
        obtain ⟨R1, R2, -, T4⟩ := txV_tx ((ratR_E2 hF hF hs0).fits (by decide) (by decide))
        obtain ⟨S1, S2, -, T5⟩ := txV_tx ((ratV_E2 hF hF h2 hs0).fits (by decide) (by decide))
        have C1 := Lib.hid (fun w (h : BlkF w g n cs (limF (-1048576))) => of36 _ n cs _ M1 M2 V1 V2 w h.ints hF h2 T1 T2)
        have C2 := Lib.hid (fun w (h : BlkF w g n cs (limF (-1048576))) => mean44 _ n cs _ M1 M2 w h.ints hF (by omega) T1)
        have C3 := Lib.hid (fun w (h : BlkF w g n cs (limF (-1048576))) => covariance43 _ _ n cs cs _ _ P1 P2 w h.ints h.ints hF hF h2 T3)
        have C4 := Lib.hid (fun w (h : BlkF w g n cs (limF (-1048576))) => ratio45 _ _ n cs cs _ _ R1 R2 S1 S2 w h.ints h.ints hF hF h2 hs0 T4 T5)
        clear T1 T2 T3 T4 T5 hF hs0
        go_wp2_with fail
        generalize ((w6.setCell ⟨g', 3, none⟩ (.int .i64 (-1048575))).setCell ⟨g', 3, none⟩ (.int .i64 (-1048577))) = wv at *
        have q := q1
        have qb := qb1
        clear q1 qb1 f2 x3
        refine (C1.out _ q).mono ?_
        rintro e w1 ⟨rfl, hbq⟩
        have hst := below_trans' hbq hbq.size ((Below.refl w1.heap.size w1).alloc (Nat.le_refl _) (.cells #[.int .i64 n, .string M1, .string M2, .string V1, .string V2] 48))
        have t1 := heap_alloc_new w1 (.cells #[.int .i64 n, .string M1, .string M2, .string V1, .string V2] 48)
        replace q := q.below hst
        replace qb := qb.below hst
        replace hbr := below_trans' hbr hbr.size hst
        clear hst hbq
        go_wp2_with fail
        generalize w1.alloc (.cells #[.int .i64 n, .string M1, .string M2, .string V1, .string V2] 48) = v1 at *
        generalize w1.heap.size = N1 at *
        refine (C2.out _ q).mono ?_
        rintro e w2 ⟨rfl, hbq⟩
        have hst := below_trans' hbq hbq.size ((Below.refl w2.heap.size w2).alloc (Nat.le_refl _) (.cells #[.string M1, .string M2] 23))
        have t2 := heap_alloc_new w2 (.cells #[.string M1, .string M2] 23)
        replace q := q.below hst
        replace qb := qb.below hst
        replace hbr := below_trans' hbr hbr.size hst
        clear hst hbq
        go_wp2_with fail
        generalize w2.alloc (.cells #[.string M1, .string M2] 23) = v2 at *
        generalize w2.heap.size = N2 at *
        refine (C3.out _ q).mono ?_
        rintro e w3 ⟨rfl, hbq⟩
        have hst := below_trans' hbq hbq.size ((Below.refl w3.heap.size w3).alloc (Nat.le_refl _) (.cells #[.string P1, .string P2] 23))
        have t3 := heap_alloc_new w3 (.cells #[.string P1, .string P2] 23)
        replace q := q.below hst
        replace qb := qb.below hst
        replace hbr := below_trans' hbr hbr.size hst
        clear hst hbq
        go_wp2_with fail
        generalize w3.alloc (.cells #[.string P1, .string P2] 23) = v3 at *
        generalize w3.heap.size = N3 at *
        refine (C4.out _ q).mono ?_
        rintro e w4 ⟨rfl, hbq⟩
        have hst := below_trans' hbq hbq.size ((Below.refl w4.heap.size w4).alloc (Nat.le_refl _) (.cells #[.int .i64 n, .string R1, .string R2, .string S1, .string S2] 48))
        have t4 := heap_alloc_new w4 (.cells #[.int .i64 n, .string R1, .string R2, .string S1, .string S2] 48)
        replace q := q.below hst
        replace qb := qb.below hst
        replace hbr := below_trans' hbr hbr.size hst
        clear hst hbq
        go_wp2_with fail
        generalize w4.alloc (.cells #[.int .i64 n, .string R1, .string R2, .string S1, .string S2] 48) = v4 at *
        generalize w4.heap.size = N4 at *
        refine (C5.out _ qb).mono ?_
        rintro e w5 ⟨rfl, hbq⟩
        have hst := below_trans' hbq hbq.size ((Below.refl w5.heap.size w5).alloc (Nat.le_refl _) (.cells #[.string ⟨#[]⟩, .string ⟨#[]⟩] 23))
        have t5 := heap_alloc_new w5 (.cells #[.string ⟨#[]⟩, .string ⟨#[]⟩] 23)
        replace q := q.below hst
        replace qb := qb.below hst
        replace hbr := below_trans' hbr hbr.size hst
        clear hst hbq
        go_wp2_with fail
        generalize w5.alloc (.cells #[.string ⟨#[]⟩, .string ⟨#[]⟩] 23) = v5 at *
        generalize w5.heap.size = N5 at *
        refine (C6.out _ qb).mono ?_
        rintro e w6 ⟨rfl, hbq⟩
        have hst := below_trans' hbq hbq.size ((Below.refl w6.heap.size w6).alloc (Nat.le_refl _) (.cells #[.int .i64 0, .string ⟨#[]⟩, .string ⟨#[]⟩, .string ⟨#[]⟩, .string ⟨#[]⟩] 48))
        have t6 := heap_alloc_new w6 (.cells #[.int .i64 0, .string ⟨#[]⟩, .string ⟨#[]⟩, .string ⟨#[]⟩, .string ⟨#[]⟩] 48)
        replace q := q.below hst
        replace qb := qb.below hst
        replace hbr := below_trans' hbr hbr.size hst
        clear hst hbq
        go_wp2_with fail
        generalize w6.alloc (.cells #[.int .i64 0, .string ⟨#[]⟩, .string ⟨#[]⟩, .string ⟨#[]⟩, .string ⟨#[]⟩] 48) = v6 at *
        generalize w6.heap.size = N6 at *
        refine (C7.out _ q qb).mono ?_
        rintro e w7 ⟨rfl, hbq⟩
        have hbe := below_trans' hbr hbr.size (below_trans' hbq hbq.size ((Below.refl w7.heap.size w7).alloc (Nat.le_refl _) (.cells #[.int .i64 0, .string ⟨#[]⟩, .string ⟨#[]⟩, .string ⟨#[]⟩, .string ⟨#[]⟩] 48)))
        clear hbq hbr
        go_wp2_with fail
        go_ret
        exact ⟨rfl, hbe⟩
      · have hn5I : ¬ (n : Int) ≤ 512 := by omega
        have hn5B : decide ((n : Int) ≤ 512) = false := decide_eq_false hn5I
        have q1 := (q.other ne1 3 (.int .i64 (-1048575))).other ne1 3 (.int .i64 (-1048577))
        have qb1 := ((qb.set 3 (-1048575)).set 3 (-1048577)).congr (f' := bigF (-1048576) (-1048577)) (fun i _ => by unfold bigF; split <;> first | rfl | (rename_i h; rw [if_neg h]))
        have hbr := (hb6.setCell (p := ⟨g', 3, none⟩) hwg (.int .i64 (-1048575))).setCell (p := ⟨g', 3, none⟩) hwg (.int .i64 (-1048577))
        have C5 := Lib.hid (fun w (h : BlkF w g' 10 cap' (bigF (-1048576) (-1048577))) => mean44_bad _ 10 cap' _ w h.ints (fun h => lim_bad (by omega) h.2))
        have C6 := Lib.hid (fun w (h : BlkF w g' 10 cap' (bigF (-1048576) (-1048577))) => of36_bad _ 10 cap' _ w h.ints (fun h => lim_bad (by omega) h.2))
        have C7 := Lib.hid (fun w (h : BlkF w g n cs (limF (-1048576))) (h' : BlkF w g' 10 cap' (bigF (-1048576) (-1048577))) => ratio45_bad _ _ 10 10 cs cap' _ _ w (h.part (by omega)).ints h'.ints (fun h => lim_bad (by omega) h.2.2.2))
        clear q qb hb6
        have hF : ∀ l, ¬ (l ≤ n ∧ Fit (limF (-1048576)) n) := fun l h => hn5 h.2.1
        have C1 := Lib.hid (fun w (h : BlkF w g n cs (limF (-1048576))) => of36_bad _ n cs _ w h.ints (hF 2))
        have C2 := Lib.hid (fun w (h : BlkF w g n cs (limF (-1048576))) => mean44_bad _ n cs _ w h.ints (hF 1))
        have C3 := Lib.hid (fun w (h : BlkF w g n cs (limF (-1048576))) => covariance43_bad _ _ n n cs cs _ _ w h.ints h.ints (fun h => hF 2 ⟨h.2.1, h.2.2.1⟩))
        have C4 := Lib.hid (fun w (h : BlkF w g n cs (limF (-1048576))) => ratio45_bad _ _ n n cs cs _ _ w h.ints h.ints (fun h => hF 2 ⟨h.2.1, h.2.2.1⟩))
        clear hF
        go_wp2_with fail
        generalize ((w6.setCell ⟨g', 3, none⟩ (.int .i64 (-1048575))).setCell ⟨g', 3, none⟩ (.int .i64 (-1048577))) = wv at *
        have q := q1
        have qb := qb1
        clear q1 qb1 f2 x3
        refine (C1.out _ q).mono ?_
        rintro e w1 ⟨rfl, hbq⟩
        have hst := below_trans' hbq hbq.size ((Below.refl w1.heap.size w1).alloc (Nat.le_refl _) (.cells #[.int .i64 0, .string ⟨#[]⟩, .string ⟨#[]⟩, .string ⟨#[]⟩, .string ⟨#[]⟩] 48))
        have t1 := heap_alloc_new w1 (.cells #[.int .i64 0, .string ⟨#[]⟩, .string ⟨#[]⟩, .string ⟨#[]⟩, .string ⟨#[]⟩] 48)
        replace q := q.below hst
        replace qb := qb.below hst
        replace hbr := below_trans' hbr hbr.size hst
        clear hst hbq
        go_wp2_with fail
        generalize w1.alloc (.cells #[.int .i64 0, .string ⟨#[]⟩, .string ⟨#[]⟩, .string ⟨#[]⟩, .string ⟨#[]⟩] 48) = v1 at *
        generalize w1.heap.size = N1 at *
        refine (C2.out _ q).mono ?_
        rintro e w2 ⟨rfl, hbq⟩
        have hst := below_trans' hbq hbq.size ((Below.refl w2.heap.size w2).alloc (Nat.le_refl _) (.cells #[.string ⟨#[]⟩, .string ⟨#[]⟩] 23))
        have t2 := heap_alloc_new w2 (.cells #[.string ⟨#[]⟩, .string ⟨#[]⟩] 23)
        replace q := q.below hst
        replace qb := qb.below hst
        replace hbr := below_trans' hbr hbr.size hst
        clear hst hbq
        go_wp2_with fail
        generalize w2.alloc (.cells #[.string ⟨#[]⟩, .string ⟨#[]⟩] 23) = v2 at *
        generalize w2.heap.size = N2 at *
        refine (C3.out _ q).mono ?_
        rintro e w3 ⟨rfl, hbq⟩
        have hst := below_trans' hbq hbq.size ((Below.refl w3.heap.size w3).alloc (Nat.le_refl _) (.cells #[.string ⟨#[]⟩, .string ⟨#[]⟩] 23))
        have t3 := heap_alloc_new w3 (.cells #[.string ⟨#[]⟩, .string ⟨#[]⟩] 23)
        replace q := q.below hst
        replace qb := qb.below hst
        replace hbr := below_trans' hbr hbr.size hst
        clear hst hbq
        go_wp2_with fail
        generalize w3.alloc (.cells #[.string ⟨#[]⟩, .string ⟨#[]⟩] 23) = v3 at *
        generalize w3.heap.size = N3 at *
        refine (C4.out _ q).mono ?_
        rintro e w4 ⟨rfl, hbq⟩
        have hst := below_trans' hbq hbq.size ((Below.refl w4.heap.size w4).alloc (Nat.le_refl _) (.cells #[.int .i64 0, .string ⟨#[]⟩, .string ⟨#[]⟩, .string ⟨#[]⟩, .string ⟨#[]⟩] 48))
        have t4 := heap_alloc_new w4 (.cells #[.int .i64 0, .string ⟨#[]⟩, .string ⟨#[]⟩, .string ⟨#[]⟩, .string ⟨#[]⟩] 48)
        replace q := q.below hst
        replace qb := qb.below hst
        replace hbr := below_trans' hbr hbr.size hst
        clear hst hbq
        go_wp2_with fail
        generalize w4.alloc (.cells #[.int .i64 0, .string ⟨#[]⟩, .string ⟨#[]⟩, .string ⟨#[]⟩, .string ⟨#[]⟩] 48) = v4 at *
        generalize w4.heap.size = N4 at *
        refine (C5.out _ qb).mono ?_
        rintro e w5 ⟨rfl, hbq⟩
        have hst := below_trans' hbq hbq.size ((Below.refl w5.heap.size w5).alloc (Nat.le_refl _) (.cells #[.string ⟨#[]⟩, .string ⟨#[]⟩] 23))
        have t5 := heap_alloc_new w5 (.cells #[.string ⟨#[]⟩, .string ⟨#[]⟩] 23)
        replace q := q.below hst
        replace qb := qb.below hst
        replace hbr := below_trans' hbr hbr.size hst
        clear hst hbq
        go_wp2_with fail
        generalize w5.alloc (.cells #[.string ⟨#[]⟩, .string ⟨#[]⟩] 23) = v5 at *
        generalize w5.heap.size = N5 at *
        refine (C6.out _ qb).mono ?_
        rintro e w6 ⟨rfl, hbq⟩
        have hst := below_trans' hbq hbq.size ((Below.refl w6.heap.size w6).alloc (Nat.le_refl _) (.cells #[.int .i64 0, .string ⟨#[]⟩, .string ⟨#[]⟩, .string ⟨#[]⟩, .string ⟨#[]⟩] 48))
        have t6 := heap_alloc_new w6 (.cells #[.int .i64 0, .string ⟨#[]⟩, .string ⟨#[]⟩, .string ⟨#[]⟩, .string ⟨#[]⟩] 48)
        replace q := q.below hst
        replace qb := qb.below hst
        replace hbr := below_trans' hbr hbr.size hst
        clear hst hbq
        go_wp2_with fail
        generalize w6.alloc (.cells #[.int .i64 0, .string ⟨#[]⟩, .string ⟨#[]⟩, .string ⟨#[]⟩, .string ⟨#[]⟩] 48) = v6 at *
        generalize w6.heap.size = N6 at *
        refine (C7.out _ q qb).mono ?_
        rintro e w7 ⟨rfl, hbq⟩
        have hbe := below_trans' hbr hbr.size (below_trans' hbq hbq.size ((Below.refl w7.heap.size w7).alloc (Nat.le_refl _) (.cells #[.int .i64 0, .string ⟨#[]⟩, .string ⟨#[]⟩, .string ⟨#[]⟩, .string ⟨#[]⟩] 48)))
        clear hbq hbr
        go_wp2_with fail
        go_ret
        exact ⟨rfl, hbe⟩
end Go.Proofs.YtpligjkbnlfhgaaDoor
