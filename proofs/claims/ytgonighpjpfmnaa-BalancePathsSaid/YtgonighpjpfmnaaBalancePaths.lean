/- The walk of flagstonelaw42.BalancePaths. -/
import Derived.Test.YtgonighpjpfmnaaBalAlarm2
import Derived.Test.YtgonighpjpfmnaaScoreLists
import Derived.Test.YtgonighpjpfmnaaAwake42
import Derived.Test.YtgonighpjpfmnaaOfBoth
namespace Go.Proofs.Ytgonighpjpfmnaa
open Go.RowKit

theorem ev_rows {w : World} {B n cap : Nat} {A : Option Addr} {l : List Ev} (h : Own Ev.cells 32 6 w B (.slice A n cap) l) : RowsAt w w.heap.size 6 A l.length (fun i => (l.getD i default).cells) := Own.rows Ev.len default h
theorem wt_rows {w : World} {B n cap : Nat} {A : Option Addr} {l : List Wt} (h : Own Wt.cells 42 3 w B (.slice A n cap) l) : RowsAt w w.heap.size 3 A l.length (fun i => (l.getD i default).cells) := Own.rows Wt.len default h

set_option maxRecDepth 100000 in
set_option maxHeartbeats 8000000 in
theorem balancePaths20 (a0 : Option Addr) (len0 cap0 : Nat) (z0 : List Int) (a1 a2 a3 a4 : Int) (a5 : Option Addr) (len5 cap5 : Nat) (a6 a7 : Int) (w : World) (w0 : IsRow .u8 w a0 len0 cap0 z0) (w1 : (Lit.int .u8 a1).wf = true) (w2 : (Lit.int .u8 a2).wf = true) (w3 : (Lit.int .u8 a3).wf = true) (w4 : (Lit.int .u8 a4).wf = true) (w5 : IsRows kWt w a5 len5 cap5) (w6 : (Lit.int .i64 a6).wf = true) (w7 : (Lit.int .u16 a7).wf = true) :
    Calls Try.prog 20 #[.slice a0 len0 cap0, .int .u8 a1, .int .u8 a2, .int .u8 a3, .int .u8 a4, .slice a5 len5 cap5, .int .i64 a6, .int .u16 a7] w fun e w' => e = .returned (.bool true) ∧ Below w.heap.size w w' := by
  have b1 := bounds_u8 w1
  have b2 := bounds_u8 w2
  have b3 := bounds_u8 w3
  have b4 := bounds_u8 w4
  have b6 := bounds_i64 w6
  have b7 := bounds_u16 w7
  have hB0 := w0.bytes
  obtain ⟨F5, hR5⟩ := kWt_rows w5
  obtain ⟨h5c, h5m, -⟩ := w5
  obtain ⟨i0, hi, hz0, hz1, hz2⟩ := info_parts info42
  clear w0 w1 w2 w3 w4 w6 w7
  by_cases hlen : 250 < len0
  · go_enter Try.func20, Try.ntmps20
    go_wp2_with (go_at_call 51; refine (awake51 _).mono ?_; rintro e w' ⟨rfl, hb⟩)
    go_ret
    exact ⟨rfl, hb⟩
  by_cases hlen5 : 20 < len5
  · go_enter Try.func20, Try.ntmps20
    go_wp2_with (go_at_call 51; refine (awake51 _).mono ?_; rintro e w' ⟨rfl, hb⟩)
    go_ret
    exact ⟨rfl, hb⟩
  obtain ⟨p1, hp1⟩ : ∃ c, 1 + a1 % 20 = c := ⟨_, rfl⟩
  obtain ⟨p2, hp2⟩ : ∃ c, 1 + a2 % 20 = c := ⟨_, rfl⟩
  obtain ⟨p3, hp3⟩ : ∃ c, 1 + a3 % 20 = c := ⟨_, rfl⟩
  obtain ⟨p4, hp4⟩ : ∃ c, 1 + a4 % 20 = c := ⟨_, rfl⟩
  obtain ⟨q1, hq1⟩ : ∃ c, a1 % 2 = c := ⟨_, rfl⟩
  obtain ⟨q2, hq2⟩ : ∃ c, 9999 + a2 % 3 = c := ⟨_, rfl⟩
  obtain ⟨lv, hlv⟩ : ∃ c, a7 % 1001 = c := ⟨_, rfl⟩
  have h40 := fun w' => weights40 a1 a2 a3 a4 w' b1 b2 b3 b4
  rw [hp1, hp2, hp3, hp4] at h40
  have H40 := Lib.hid h40
  clear h40
  go_enter Try.func20, Try.ntmps20
  go_wp2_with fail
  refine (awake51 w).mono ?_
  rintro e w1 ⟨rfl, hb1⟩
  go_wp2_with fail
  refine (exposures62 a0 len0 cap0 w1 (by omega) ((hB0.kept hb1 (Nat.le_refl _)).more' hb1.size)).mono ?_
  rintro e w2 ⟨v, l, rfl, hl, hgood, hown, hb2⟩
  obtain ⟨AX, cX, rfl, hcX⟩ := Own.shape hown
  have hx := ev_rows hown
  have hb := below_trans' hb1 hb1.size hb2
  clear hown hb1 hb2 hB0
  go_wp2_with fail
  refine (H40.out w2).mono ?_
  rintro e _ ⟨rfl, rfl⟩
  have gM := heap_alloc_new w2 (.cells #[.int .i64 1, .int .i64 p1, .int .i64 p2, .int .i64 2, .int .i64 p3, .int .i64 p4] 42)
  have hq : Below w2.heap.size w2 (w2.alloc (.cells #[.int .i64 1, .int .i64 p1, .int .i64 p2, .int .i64 2, .int .i64 p3, .int .i64 p4] 42)) := (Below.refl _ _).alloc (Nat.le_refl _) _
  replace hx := (hx.below hq (Nat.le_refl _)).more hq.size
  replace hb := below_trans' hb hb.size hq
  generalize w2.alloc (.cells #[.int .i64 1, .int .i64 p1, .int .i64 p2, .int .i64 2, .int .i64 p3, .int .i64 p4] 42) = w3 at *
  generalize w2.heap.size = GM at *
  clear hq
  obtain ⟨n, hn⟩ : ∃ n, l.length = n := ⟨_, rfl⟩
  obtain ⟨f, hf⟩ : ∃ f : Nat → Ev, (fun i => l.getD i default) = f := ⟨_, rfl⟩
  have hfb : ∀ i, i < n → -9223372036854775808 ≤ (f i).ver ∧ (f i).ver ≤ 9223372036854775807 := fun i hi => by
    rw [← hf]
    have := hgood (l.getD i default) (by rw [List.getD_eq_getElem?_getD, List.getElem?_eq_getElem (by omega)]; exact List.getElem_mem _)
    dsimp only
    omega
  replace hx : RowsAt w3 w3.heap.size 6 AX n (fun i => (f i).cells) := by rw [← hf, ← hn]; exact hx
  rw [hn] at hl hcX ⊢
  have HFB := Lib.hid hfb
  clear hgood hfb hf hn
  obtain ⟨oM, hoM⟩ : ∃ o, (0 : Nat) = o := ⟨_, rfl⟩
  have HOM := Lib.hid hoM
  clear hoM
  go_wp2_with (at_builtin; refine wpList_append_grows _ (by rfl) (.tmp 48) (.tmp 49) 43 (by rfl) 42 i0 _ 3 24 Try.underlying43 hi hz0 hz1 hz2 rfl (by omega) (some ⟨w3.heap.size, 0, none⟩) 1 1 [.int .i64 2, .int .i64 q1, .int .i64 q2] (by rfl) (fun h => by cases h) rfl (fun b hb2 j u hu => by cases hb2; exact World.news_of_block (heap_alloc_new w3 (.cells #[.int .i64 2, .int .i64 q1, .int .i64 q2] 42)) j u hu) ⟨GM, 0, none⟩ 2 2 [.int .i64 1, .int .i64 p1, .int .i64 p2, .int .i64 2, .int .i64 p3, .int .i64 p4] (by rfl) rfl (World.news_of_block (blk_kept1 ((Below.refl w3.heap.size w3).alloc (Nat.le_refl _) _) gM)) (by simp [Value.oneCell']) (by omega) (by unfold maxLen; omega) (by omega) ?_; intro v' w4 hv4 hg4; obtain ⟨AB, cB, rfl, hcB⟩ := Own.shape (c := Wt.cells) (l := [⟨2, q1, q2⟩, ⟨1, p1, p2⟩, ⟨2, p3, p4⟩]) hv4)
  have hq : Below w3.heap.size w3 (w3.alloc (.cells #[.int .i64 2, .int .i64 q1, .int .i64 q2] 42)) := (Below.refl _ _).alloc (Nat.le_refl _) _
  have hq4 := below_trans' hq hq.size (below_of_grownBy hg4)
  have hB4 : Own Wt.cells 42 3 w4 _ (.slice AB 3 cB) [⟨2, q1, q2⟩, ⟨1, p1, p2⟩, ⟨2, p3, p4⟩] := hv4
  have hBr := wt_rows hB4
  replace gM := blk_kept1 hq4 gM
  replace hx := (hx.below hq4 (Nat.le_refl _)).more hq4.size
  replace hb := below_trans' hb hb.size hq4
  clear hq hq4 hg4 hv4 hB4
  go_loopg [20, 21, 22] 4 (fun mm s20 s21 s22 wr => ∃ i : Nat, i ≤ 4 ∧ mm = 4 - i ∧ s20 = .int .i64 i ∧ Below w4.heap.size w4 wr)
  case atStart => exact ⟨0, by omega, by omega, rfl, Below.refl _ _⟩
  case round =>
    obtain ⟨i, hi4, hmi, rfl, hbr⟩ := hrel
    have HMI := Lib.hid hmi
    clear hmi
    replace hb := below_trans' hb hb.size hbr
    replace hx := (hx.below hbr (Nat.le_refl _)).more hbr.size
    replace hBr := (hBr.below hbr (Nat.le_refl _)).more hbr.size
    replace gM := blk_kept1 hbr gM
    have hR5r := (hR5.below hb (Nat.le_refl _)).more hb.size
    have hMr : RowsAt wr wr.heap.size 3 (some ⟨GM, 0, none⟩) 2 (fun i => (([⟨1, p1, p2⟩, ⟨2, p3, p4⟩] : List Wt).getD i default).cells) := rows_of_flat (L := [⟨1, p1, p2⟩, ⟨2, p3, p4⟩]) Wt.len default gM
    have hnM : ∀ j u, ([.int .i64 1, .int .i64 p1, .int .i64 p2, .int .i64 2, .int .i64 p3, .int .i64 p4] : List Value)[j]? = some u → wr.cell? ((⟨GM, 0, none⟩ : Addr).add j) = some u := World.news_of_block gM
    have hnO : ∀ j u, ([.int .i64 1, .int .i64 p1, .int .i64 p2] : List Value)[j]? = some u → wr.cell? ((⟨GM, 0, none⟩ : Addr).add j) = some u := fun j u hu => hnM j u (by
      have hj : j < 3 := (List.getElem?_eq_some_iff.1 hu).1
      rcases (show j = 0 ∨ j = 1 ∨ j = 2 by omega) with rfl | rfl | rfl <;> exact hu)
    have HNM := Lib.hid hnM
    have HNO := Lib.hid hnO
    clear hnM hnO gM
    rcases (show i = 0 ∨ i = 1 ∨ i = 2 ∨ i = 3 ∨ i = 4 by omega) with rfl | rfl | rfl | rfl | rfl
    · go_upto_region 11 with fail
      go_wp2_with (at_builtin; refine wpList_append_grows _ (by rfl) (.tmp 59) (.tmp 60) 43 (by rfl) 42 i0 _ 3 24 Try.underlying43 hi hz0 hz1 hz2 rfl (by omega) (some ⟨GM, 0, none⟩) 1 1 [.int .i64 1, .int .i64 p1, .int .i64 p2] (by rfl) (fun h => by cases h) rfl (fun b hb2 j u hu => by cases hb2; exact HNO.out j u hu) ⟨GM, 0, none⟩ 2 2 [.int .i64 1, .int .i64 p1, .int .i64 p2, .int .i64 2, .int .i64 p3, .int .i64 p4] (by rfl) rfl HNM.out (by simp [Value.oneCell']) (by omega) (by unfold maxLen; omega) (by omega) ?_; intro v' w5 hv5 hg5; obtain ⟨AC, cC, rfl, hcC⟩ := Own.shape (c := Wt.cells) (l := [⟨1, p1, p2⟩, ⟨1, p1, p2⟩, ⟨2, p3, p4⟩]) hv5)
      have hqa : Below w5.heap.size w5 ((w5.alloc (.cells #[.slice a5 len5 cap5, .slice (some ⟨GM, 0, none⟩) 2 2, .slice AB 3 cB, .slice AC 3 cC] 43)).alloc (.cells #[.int .i64 a6, .int .i64 lv] 3)) := ((Below.refl _ _).alloc (Nat.le_refl _) _).alloc (by simp) _
      have hq := below_trans' (below_of_grownBy hg5) (below_of_grownBy hg5).size hqa
      obtain ⟨F, hF⟩ : ∃ F : Nat → Wt, F5 = F := ⟨_, rfl⟩
      have hr : RowsAt ((w5.alloc (.cells #[.slice a5 len5 cap5, .slice (some ⟨GM, 0, none⟩) 2 2, .slice AB 3 cB, .slice AC 3 cC] 43)).alloc (.cells #[.int .i64 a6, .int .i64 lv] 3)) ((w5.alloc (.cells #[.slice a5 len5 cap5, .slice (some ⟨GM, 0, none⟩) 2 2, .slice AB 3 cB, .slice AC 3 cC] 43)).alloc (.cells #[.int .i64 a6, .int .i64 lv] 3)).heap.size 3 a5 len5 (fun i => (F i).cells) := by rw [← hF]; exact ((hR5r.below hq (Nat.le_refl _)).more hq.size)
      replace hx := (hx.below hq (Nat.le_refl _)).more hq.size
      replace hb := below_trans' hb hb.size hq
      replace hbr := below_trans' hbr hbr.size hq
      have h63 := fun W h1 h2 => path63 AX n cX f a5 len5 cap5 F W (by omega) (by omega) h1 h2 HFB.out
      have h64 := fun W h1 h2 => path64 AX n cX f a5 len5 cap5 F W (by omega) (by omega) h1 h2
      have h65 := fun W h1 h2 => alarm65 AX n cX f a5 len5 cap5 F a6 W (by omega) (by omega) h1 h2 HFB.out
      have h66 := fun W h1 h2 => alarm66 AX n cX f a5 len5 cap5 F a6 W (by omega) (by omega) h1 h2
      have hPl : (bpathR F len5 f n).length ≤ n := (runB_bd F len5 f n).2
      generalize bpathR F len5 f n = P at *
      generalize bAl F len5 f n a6 = KA at *
      have H63 := Lib.hid h63
      have H64 := Lib.hid h64
      have H65 := Lib.hid h65
      have H66 := Lib.hid h66
      clear h63 h64 h65 h66 hF hq hqa hg5 hv5 hR5r hMr hBr HNM HNO
      generalize (w5.alloc (.cells #[.slice a5 len5 cap5, .slice (some ⟨GM, 0, none⟩) 2 2, .slice AB 3 cB, .slice AC 3 cC] 43)).alloc (.cells #[.int .i64 a6, .int .i64 lv] 3) = w6 at *
      refine (H63.out w6 hx hr).mono ?_
      rintro en w7 ⟨v1, rfl, ho1, hq⟩
      obtain ⟨A1, c1, rfl, hc1⟩ := Own.shape ho1
      have hr1 := Own.rows (c := intC) intC_len 0 ho1
      replace hx := (hx.below hq (Nat.le_refl _)).more hq.size
      replace hr := (hr.below hq (Nat.le_refl _)).more hq.size
      replace hbr := below_trans' hbr hbr.size hq
      clear ho1 hq
      go_wp2_with fail
      refine (H64.out w7 hx hr).mono ?_
      rintro en w8 ⟨v2, rfl, ho2, hq⟩
      obtain ⟨A2, c2, rfl, hc2⟩ := Own.shape ho2
      have hr2 := Own.rows (c := intC) intC_len 0 ho2
      replace hx := (hx.below hq (Nat.le_refl _)).more hq.size
      replace hr := (hr.below hq (Nat.le_refl _)).more hq.size
      replace hr1 := (hr1.below hq (Nat.le_refl _)).more hq.size
      replace hbr := below_trans' hbr hbr.size hq
      clear ho2 hq
      go_wp2_with fail
      refine (same54 A1 A2 P.length c1 c2 (fun i => P.getD i 0) w8 (by omega) hr1 hr2).mono ?_
      rintro en w9 ⟨rfl, hq⟩
      replace hx := (hx.below hq (Nat.le_refl _)).more hq.size
      replace hr := (hr.below hq (Nat.le_refl _)).more hq.size
      replace hbr := below_trans' hbr hbr.size hq
      clear hq hr1 hr2
      go_wp2_with fail
      refine (H65.out w9 hx hr).mono ?_
      rintro en w10 ⟨rfl, hq⟩
      replace hx := (hx.below hq (Nat.le_refl _)).more hq.size
      replace hr := (hr.below hq (Nat.le_refl _)).more hq.size
      replace hbr := below_trans' hbr hbr.size hq
      clear hq
      go_wp2_with fail
      refine (H66.out w10 hx hr).mono ?_
      rintro en w11 ⟨rfl, hq⟩
      replace hbr := below_trans' hbr hbr.size hq
      clear hq
      go_wp2_with fail
      go_roundg (4 - 1)
      case measure => have := HMI.out; omega
      case rel => exact ⟨1, by omega, rfl, rfl, hbr⟩
    · go_upto_region 11 with fail
      go_wp2_with (at_builtin; refine wpList_append_grows _ (by rfl) (.tmp 59) (.tmp 60) 43 (by rfl) 42 i0 _ 3 24 Try.underlying43 hi hz0 hz1 hz2 rfl (by omega) (some ⟨GM, 0, none⟩) 1 1 [.int .i64 1, .int .i64 p1, .int .i64 p2] (by rfl) (fun h => by cases h) rfl (fun b hb2 j u hu => by cases hb2; exact HNO.out j u hu) ⟨GM, 0, none⟩ 2 2 [.int .i64 1, .int .i64 p1, .int .i64 p2, .int .i64 2, .int .i64 p3, .int .i64 p4] (by rfl) rfl HNM.out (by simp [Value.oneCell']) (by omega) (by unfold maxLen; omega) (by omega) ?_; intro v' w5 hv5 hg5; obtain ⟨AC, cC, rfl, hcC⟩ := Own.shape (c := Wt.cells) (l := [⟨1, p1, p2⟩, ⟨1, p1, p2⟩, ⟨2, p3, p4⟩]) hv5)
      have hqa : Below w5.heap.size w5 ((w5.alloc (.cells #[.slice a5 len5 cap5, .slice (some ⟨GM, 0, none⟩) 2 2, .slice AB 3 cB, .slice AC 3 cC] 43)).alloc (.cells #[.int .i64 a6, .int .i64 lv] 3)) := ((Below.refl _ _).alloc (Nat.le_refl _) _).alloc (by simp) _
      have hq := below_trans' (below_of_grownBy hg5) (below_of_grownBy hg5).size hqa
      obtain ⟨F, hF⟩ : ∃ F : Nat → Wt, (fun i => ([⟨1, p1, p2⟩, ⟨2, p3, p4⟩] : List Wt).getD i default) = F := ⟨_, rfl⟩
      have hr : RowsAt ((w5.alloc (.cells #[.slice a5 len5 cap5, .slice (some ⟨GM, 0, none⟩) 2 2, .slice AB 3 cB, .slice AC 3 cC] 43)).alloc (.cells #[.int .i64 a6, .int .i64 lv] 3)) ((w5.alloc (.cells #[.slice a5 len5 cap5, .slice (some ⟨GM, 0, none⟩) 2 2, .slice AB 3 cB, .slice AC 3 cC] 43)).alloc (.cells #[.int .i64 a6, .int .i64 lv] 3)).heap.size 3 (some ⟨GM, 0, none⟩) 2 (fun i => (F i).cells) := by rw [← hF]; exact ((hMr.below hq (Nat.le_refl _)).more hq.size)
      replace hx := (hx.below hq (Nat.le_refl _)).more hq.size
      replace hb := below_trans' hb hb.size hq
      replace hbr := below_trans' hbr hbr.size hq
      have h63 := fun W h1 h2 => path63 AX n cX f (some ⟨GM, 0, none⟩) 2 2 F W (by omega) (by omega) h1 h2 HFB.out
      have h64 := fun W h1 h2 => path64 AX n cX f (some ⟨GM, 0, none⟩) 2 2 F W (by omega) (by omega) h1 h2
      have h65 := fun W h1 h2 => alarm65 AX n cX f (some ⟨GM, 0, none⟩) 2 2 F lv W (by omega) (by omega) h1 h2 HFB.out
      have h66 := fun W h1 h2 => alarm66 AX n cX f (some ⟨GM, 0, none⟩) 2 2 F lv W (by omega) (by omega) h1 h2
      have hPl : (bpathR F 2 f n).length ≤ n := (runB_bd F 2 f n).2
      generalize bpathR F 2 f n = P at *
      generalize bAl F 2 f n lv = KA at *
      have H63 := Lib.hid h63
      have H64 := Lib.hid h64
      have H65 := Lib.hid h65
      have H66 := Lib.hid h66
      clear h63 h64 h65 h66 hF hq hqa hg5 hv5 hR5r hMr hBr HNM HNO
      generalize (w5.alloc (.cells #[.slice a5 len5 cap5, .slice (some ⟨GM, 0, none⟩) 2 2, .slice AB 3 cB, .slice AC 3 cC] 43)).alloc (.cells #[.int .i64 a6, .int .i64 lv] 3) = w6 at *
      refine (H63.out w6 hx hr).mono ?_
      rintro en w7 ⟨v1, rfl, ho1, hq⟩
      obtain ⟨A1, c1, rfl, hc1⟩ := Own.shape ho1
      have hr1 := Own.rows (c := intC) intC_len 0 ho1
      replace hx := (hx.below hq (Nat.le_refl _)).more hq.size
      replace hr := (hr.below hq (Nat.le_refl _)).more hq.size
      replace hbr := below_trans' hbr hbr.size hq
      clear ho1 hq
      go_wp2_with fail
      refine (H64.out w7 hx hr).mono ?_
      rintro en w8 ⟨v2, rfl, ho2, hq⟩
      obtain ⟨A2, c2, rfl, hc2⟩ := Own.shape ho2
      have hr2 := Own.rows (c := intC) intC_len 0 ho2
      replace hx := (hx.below hq (Nat.le_refl _)).more hq.size
      replace hr := (hr.below hq (Nat.le_refl _)).more hq.size
      replace hr1 := (hr1.below hq (Nat.le_refl _)).more hq.size
      replace hbr := below_trans' hbr hbr.size hq
      clear ho2 hq
      go_wp2_with fail
      refine (same54 A1 A2 P.length c1 c2 (fun i => P.getD i 0) w8 (by omega) hr1 hr2).mono ?_
      rintro en w9 ⟨rfl, hq⟩
      replace hx := (hx.below hq (Nat.le_refl _)).more hq.size
      replace hr := (hr.below hq (Nat.le_refl _)).more hq.size
      replace hbr := below_trans' hbr hbr.size hq
      clear hq hr1 hr2
      go_wp2_with fail
      refine (H65.out w9 hx hr).mono ?_
      rintro en w10 ⟨rfl, hq⟩
      replace hx := (hx.below hq (Nat.le_refl _)).more hq.size
      replace hr := (hr.below hq (Nat.le_refl _)).more hq.size
      replace hbr := below_trans' hbr hbr.size hq
      clear hq
      go_wp2_with fail
      refine (H66.out w10 hx hr).mono ?_
      rintro en w11 ⟨rfl, hq⟩
      replace hbr := below_trans' hbr hbr.size hq
      clear hq
      go_wp2_with fail
      go_roundg (4 - 2)
      case measure => have := HMI.out; omega
      case rel => exact ⟨2, by omega, rfl, rfl, hbr⟩
    · go_upto_region 11 with fail
      go_wp2_with (at_builtin; refine wpList_append_grows _ (by rfl) (.tmp 59) (.tmp 60) 43 (by rfl) 42 i0 _ 3 24 Try.underlying43 hi hz0 hz1 hz2 rfl (by omega) (some ⟨GM, 0, none⟩) 1 1 [.int .i64 1, .int .i64 p1, .int .i64 p2] (by rfl) (fun h => by cases h) rfl (fun b hb2 j u hu => by cases hb2; exact HNO.out j u hu) ⟨GM, 0, none⟩ 2 2 [.int .i64 1, .int .i64 p1, .int .i64 p2, .int .i64 2, .int .i64 p3, .int .i64 p4] (by rfl) rfl HNM.out (by simp [Value.oneCell']) (by omega) (by unfold maxLen; omega) (by omega) ?_; intro v' w5 hv5 hg5; obtain ⟨AC, cC, rfl, hcC⟩ := Own.shape (c := Wt.cells) (l := [⟨1, p1, p2⟩, ⟨1, p1, p2⟩, ⟨2, p3, p4⟩]) hv5)
      have hqa : Below w5.heap.size w5 ((w5.alloc (.cells #[.slice a5 len5 cap5, .slice (some ⟨GM, 0, none⟩) 2 2, .slice AB 3 cB, .slice AC 3 cC] 43)).alloc (.cells #[.int .i64 a6, .int .i64 lv] 3)) := ((Below.refl _ _).alloc (Nat.le_refl _) _).alloc (by simp) _
      have hq := below_trans' (below_of_grownBy hg5) (below_of_grownBy hg5).size hqa
      obtain ⟨F, hF⟩ : ∃ F : Nat → Wt, (fun i => ([⟨2, q1, q2⟩, ⟨1, p1, p2⟩, ⟨2, p3, p4⟩] : List Wt).getD i default) = F := ⟨_, rfl⟩
      have hr : RowsAt ((w5.alloc (.cells #[.slice a5 len5 cap5, .slice (some ⟨GM, 0, none⟩) 2 2, .slice AB 3 cB, .slice AC 3 cC] 43)).alloc (.cells #[.int .i64 a6, .int .i64 lv] 3)) ((w5.alloc (.cells #[.slice a5 len5 cap5, .slice (some ⟨GM, 0, none⟩) 2 2, .slice AB 3 cB, .slice AC 3 cC] 43)).alloc (.cells #[.int .i64 a6, .int .i64 lv] 3)).heap.size 3 AB 3 (fun i => (F i).cells) := by rw [← hF]; exact ((hBr.below hq (Nat.le_refl _)).more hq.size)
      replace hx := (hx.below hq (Nat.le_refl _)).more hq.size
      replace hb := below_trans' hb hb.size hq
      replace hbr := below_trans' hbr hbr.size hq
      have h63 := fun W h1 h2 => path63 AX n cX f AB 3 cB F W (by omega) (by omega) h1 h2 HFB.out
      have h64 := fun W h1 h2 => path64 AX n cX f AB 3 cB F W (by omega) (by omega) h1 h2
      have h65 := fun W h1 h2 => alarm65 AX n cX f AB 3 cB F a6 W (by omega) (by omega) h1 h2 HFB.out
      have h66 := fun W h1 h2 => alarm66 AX n cX f AB 3 cB F a6 W (by omega) (by omega) h1 h2
      have hPl : (bpathR F 3 f n).length ≤ n := (runB_bd F 3 f n).2
      generalize bpathR F 3 f n = P at *
      generalize bAl F 3 f n a6 = KA at *
      have H63 := Lib.hid h63
      have H64 := Lib.hid h64
      have H65 := Lib.hid h65
      have H66 := Lib.hid h66
      clear h63 h64 h65 h66 hF hq hqa hg5 hv5 hR5r hMr hBr HNM HNO
      generalize (w5.alloc (.cells #[.slice a5 len5 cap5, .slice (some ⟨GM, 0, none⟩) 2 2, .slice AB 3 cB, .slice AC 3 cC] 43)).alloc (.cells #[.int .i64 a6, .int .i64 lv] 3) = w6 at *
      refine (H63.out w6 hx hr).mono ?_
      rintro en w7 ⟨v1, rfl, ho1, hq⟩
      obtain ⟨A1, c1, rfl, hc1⟩ := Own.shape ho1
      have hr1 := Own.rows (c := intC) intC_len 0 ho1
      replace hx := (hx.below hq (Nat.le_refl _)).more hq.size
      replace hr := (hr.below hq (Nat.le_refl _)).more hq.size
      replace hbr := below_trans' hbr hbr.size hq
      clear ho1 hq
      go_wp2_with fail
      refine (H64.out w7 hx hr).mono ?_
      rintro en w8 ⟨v2, rfl, ho2, hq⟩
      obtain ⟨A2, c2, rfl, hc2⟩ := Own.shape ho2
      have hr2 := Own.rows (c := intC) intC_len 0 ho2
      replace hx := (hx.below hq (Nat.le_refl _)).more hq.size
      replace hr := (hr.below hq (Nat.le_refl _)).more hq.size
      replace hr1 := (hr1.below hq (Nat.le_refl _)).more hq.size
      replace hbr := below_trans' hbr hbr.size hq
      clear ho2 hq
      go_wp2_with fail
      refine (same54 A1 A2 P.length c1 c2 (fun i => P.getD i 0) w8 (by omega) hr1 hr2).mono ?_
      rintro en w9 ⟨rfl, hq⟩
      replace hx := (hx.below hq (Nat.le_refl _)).more hq.size
      replace hr := (hr.below hq (Nat.le_refl _)).more hq.size
      replace hbr := below_trans' hbr hbr.size hq
      clear hq hr1 hr2
      go_wp2_with fail
      refine (H65.out w9 hx hr).mono ?_
      rintro en w10 ⟨rfl, hq⟩
      replace hx := (hx.below hq (Nat.le_refl _)).more hq.size
      replace hr := (hr.below hq (Nat.le_refl _)).more hq.size
      replace hbr := below_trans' hbr hbr.size hq
      clear hq
      go_wp2_with fail
      refine (H66.out w10 hx hr).mono ?_
      rintro en w11 ⟨rfl, hq⟩
      replace hbr := below_trans' hbr hbr.size hq
      clear hq
      go_wp2_with fail
      go_roundg (4 - 3)
      case measure => have := HMI.out; omega
      case rel => exact ⟨3, by omega, rfl, rfl, hbr⟩
    · go_upto_region 11 with fail
      go_wp2_with (at_builtin; refine wpList_append_grows _ (by rfl) (.tmp 59) (.tmp 60) 43 (by rfl) 42 i0 _ 3 24 Try.underlying43 hi hz0 hz1 hz2 rfl (by omega) (some ⟨GM, 0, none⟩) 1 1 [.int .i64 1, .int .i64 p1, .int .i64 p2] (by rfl) (fun h => by cases h) rfl (fun b hb2 j u hu => by cases hb2; exact HNO.out j u hu) ⟨GM, 0, none⟩ 2 2 [.int .i64 1, .int .i64 p1, .int .i64 p2, .int .i64 2, .int .i64 p3, .int .i64 p4] (by rfl) rfl HNM.out (by simp [Value.oneCell']) (by omega) (by unfold maxLen; omega) (by omega) ?_; intro v' w5 hv5 hg5; obtain ⟨AC, cC, rfl, hcC⟩ := Own.shape (c := Wt.cells) (l := [⟨1, p1, p2⟩, ⟨1, p1, p2⟩, ⟨2, p3, p4⟩]) hv5)
      have hqa : Below w5.heap.size w5 ((w5.alloc (.cells #[.slice a5 len5 cap5, .slice (some ⟨GM, 0, none⟩) 2 2, .slice AB 3 cB, .slice AC 3 cC] 43)).alloc (.cells #[.int .i64 a6, .int .i64 lv] 3)) := ((Below.refl _ _).alloc (Nat.le_refl _) _).alloc (by simp) _
      have hq := below_trans' (below_of_grownBy hg5) (below_of_grownBy hg5).size hqa
      have hCr := wt_rows (show Own Wt.cells 42 3 w5 _ (.slice AC 3 cC) [⟨1, p1, p2⟩, ⟨1, p1, p2⟩, ⟨2, p3, p4⟩] from hv5)
      replace hCr := (hCr.below hqa (Nat.le_refl _)).more hqa.size
      obtain ⟨F, hF⟩ : ∃ F : Nat → Wt, (fun i => ([⟨1, p1, p2⟩, ⟨1, p1, p2⟩, ⟨2, p3, p4⟩] : List Wt).getD i default) = F := ⟨_, rfl⟩
      have hr : RowsAt ((w5.alloc (.cells #[.slice a5 len5 cap5, .slice (some ⟨GM, 0, none⟩) 2 2, .slice AB 3 cB, .slice AC 3 cC] 43)).alloc (.cells #[.int .i64 a6, .int .i64 lv] 3)) ((w5.alloc (.cells #[.slice a5 len5 cap5, .slice (some ⟨GM, 0, none⟩) 2 2, .slice AB 3 cB, .slice AC 3 cC] 43)).alloc (.cells #[.int .i64 a6, .int .i64 lv] 3)).heap.size 3 AC 3 (fun i => (F i).cells) := by rw [← hF]; exact hCr
      replace hx := (hx.below hq (Nat.le_refl _)).more hq.size
      replace hb := below_trans' hb hb.size hq
      replace hbr := below_trans' hbr hbr.size hq
      have h63 := fun W h1 h2 => path63 AX n cX f AC 3 cC F W (by omega) (by omega) h1 h2 HFB.out
      have h64 := fun W h1 h2 => path64 AX n cX f AC 3 cC F W (by omega) (by omega) h1 h2
      have h65 := fun W h1 h2 => alarm65 AX n cX f AC 3 cC F lv W (by omega) (by omega) h1 h2 HFB.out
      have h66 := fun W h1 h2 => alarm66 AX n cX f AC 3 cC F lv W (by omega) (by omega) h1 h2
      have hPl : (bpathR F 3 f n).length ≤ n := (runB_bd F 3 f n).2
      generalize bpathR F 3 f n = P at *
      generalize bAl F 3 f n lv = KA at *
      have H63 := Lib.hid h63
      have H64 := Lib.hid h64
      have H65 := Lib.hid h65
      have H66 := Lib.hid h66
      clear h63 h64 h65 h66 hF hq hqa hg5 hv5 hR5r hMr hBr HNM HNO
      generalize (w5.alloc (.cells #[.slice a5 len5 cap5, .slice (some ⟨GM, 0, none⟩) 2 2, .slice AB 3 cB, .slice AC 3 cC] 43)).alloc (.cells #[.int .i64 a6, .int .i64 lv] 3) = w6 at *
      refine (H63.out w6 hx hr).mono ?_
      rintro en w7 ⟨v1, rfl, ho1, hq⟩
      obtain ⟨A1, c1, rfl, hc1⟩ := Own.shape ho1
      have hr1 := Own.rows (c := intC) intC_len 0 ho1
      replace hx := (hx.below hq (Nat.le_refl _)).more hq.size
      replace hr := (hr.below hq (Nat.le_refl _)).more hq.size
      replace hbr := below_trans' hbr hbr.size hq
      clear ho1 hq
      go_wp2_with fail
      refine (H64.out w7 hx hr).mono ?_
      rintro en w8 ⟨v2, rfl, ho2, hq⟩
      obtain ⟨A2, c2, rfl, hc2⟩ := Own.shape ho2
      have hr2 := Own.rows (c := intC) intC_len 0 ho2
      replace hx := (hx.below hq (Nat.le_refl _)).more hq.size
      replace hr := (hr.below hq (Nat.le_refl _)).more hq.size
      replace hr1 := (hr1.below hq (Nat.le_refl _)).more hq.size
      replace hbr := below_trans' hbr hbr.size hq
      clear ho2 hq
      go_wp2_with fail
      refine (same54 A1 A2 P.length c1 c2 (fun i => P.getD i 0) w8 (by omega) hr1 hr2).mono ?_
      rintro en w9 ⟨rfl, hq⟩
      replace hx := (hx.below hq (Nat.le_refl _)).more hq.size
      replace hr := (hr.below hq (Nat.le_refl _)).more hq.size
      replace hbr := below_trans' hbr hbr.size hq
      clear hq hr1 hr2
      go_wp2_with fail
      refine (H65.out w9 hx hr).mono ?_
      rintro en w10 ⟨rfl, hq⟩
      replace hx := (hx.below hq (Nat.le_refl _)).more hq.size
      replace hr := (hr.below hq (Nat.le_refl _)).more hq.size
      replace hbr := below_trans' hbr hbr.size hq
      clear hq
      go_wp2_with fail
      refine (H66.out w10 hx hr).mono ?_
      rintro en w11 ⟨rfl, hq⟩
      replace hbr := below_trans' hbr hbr.size hq
      clear hq
      go_wp2_with fail
      go_roundg (4 - 4)
      case measure => have := HMI.out; omega
      case rel => exact ⟨4, by omega, rfl, rfl, hbr⟩
    · go_wp2_with fail
      go_ret
      exact ⟨rfl, hb⟩
end Go.Proofs.Ytgonighpjpfmnaa
