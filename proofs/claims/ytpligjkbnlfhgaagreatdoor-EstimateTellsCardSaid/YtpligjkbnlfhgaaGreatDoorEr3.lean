/- The reference of chapter 38: Mean, Covariance, estimate, Of. No statement is proved here. -/
import Derived.Test.YtpligjkbnlfhgaaGreatDoorEr2
import Derived.Test.YtpligjkbnlfhgaaGreatDoorEstB
namespace Go.Proofs.YtpligjkbnlfhgaaGreatDoor
open Go.RowKit

theorem tx_V {X Y : ByteArray} {x : Rat} (h : Tx X Y x) : txV (wrR x) = .tuple #[.agg #[.string X, .string Y], .bool true] := by
  obtain ⟨A, B, e, h'⟩ := txV_tx h.1
  obtain ⟨rfl, rfl⟩ := h.inj h'
  exact e
theorem write_tx {f : Value} {x : Rat} {X Y : ByteArray} {w : World} (a : RS 400 x) (h : FrR w f x) (t : Tx X Y x) :
    Calls Tryz.prog 57 #[f] w fun e w' => e = .returned (.tuple #[.agg #[.string X, .string Y], .bool true]) ∧ Below w.heap.size w w' := by
  have := write72 400 f x w (by omega) (by omega) a h
  rw [tx_V t] at this
  exact this
structure FitB (o : Bool) (f : Nat → Int) (n : Nat) : Prop where
  out : o = true ↔ Fit f n
theorem fit_or (f : Nat → Int) (n : Nat) : ∃ o : Bool, FitB o f n := by
  by_cases h : Fit f n
  · exact ⟨true, ⟨by simp [h]⟩⟩
  · exact ⟨false, ⟨by simp [h]⟩⟩
theorem fits_at {A : Option Addr} {n c : Nat} {f : Nat → Int} {o : Bool} (ho : FitB o f n) {w : World} (hl : IntsV w A n c f) : Calls Tryz.prog 25 #[.slice A n c] w fun e w' => e = .returned (.bool o) ∧ w = w' := fits25 A n c f o w hl ho.out

set_option maxRecDepth 100000 in
set_option maxHeartbeats 4000000 in
theorem mean16 (A : Option Addr) (n c : Nat) (f : Nat → Int) (X Y : ByteArray) (w : World) (hl : IntsV w A n c f) (hf : Fit f n) (h1 : 1 ≤ n) (hT : Tx X Y (meanQ f n)) :
    Calls Tryz.prog 16 #[.slice A n c] w fun e w' => e = .returned (.tuple #[.agg #[.string X, .string Y], .bool true]) ∧ Below w.heap.size w w' := by
  have g0 := heap_alloc_new w (.cells #[.string ⟨#[]⟩, .string ⟨#[]⟩] 26)
  have hbW := below_alloc w #[.string ⟨#[]⟩, .string ⟨#[]⟩] 26
  have hl1 := hl.below hbW
  have HF := Lib.hid hf
  have HO := Lib.hid (show FitB true f n from ⟨⟨fun _ => hf, fun _ => rfl⟩⟩)
  have hn0 : ((n : Int) == 0) = false := by rw [beq_eq_false_iff_ne]; omega
  have HT := Lib.hid (And.intro (rs_of (mean_E2 hf h1) (by omega) (by omega)) hT)
  clear hf hT hl
  go_enter Tryz.func16, Tryz.ntmps16
  go_wp2_with fail
  generalize w.alloc (.cells #[.string ⟨#[]⟩, .string ⟨#[]⟩] 26) = W at *
  refine (fits_at HO.out hl1).mono ?_
  rintro e w' ⟨rfl, rfl⟩
  go_wp2_with fail
  refine (mean27 _ n c f _ hl1 HF.out h1).mono ?_
  rintro e w1 ⟨v, rfl, hv, b1⟩
  go_wp2_with fail
  refine (write_tx HT.out.1 hv HT.out.2).mono ?_
  rintro e w2 ⟨rfl, b2⟩
  have b3 := below_trans' b1 b1.size b2
  have G := blk_below b3 g0
  have z0 := free_of_block G
  have z1 := cells2 G
  obtain ⟨y0, y1⟩ := ret2 (A := X) (B := Y) G
  have hbe := below_sets2 (below_trans' hbW hbW.size b3) (Nat.le_refl _) (.string X) (.string Y)
  clear b1 b2 b3 hv hl1 hbW g0 G
  go_wp2_with fail
  exact bodyPost_ret (v := .tuple #[.agg #[.string X, .string Y], .bool true]) (by simp [results, Tryz.results16, go_sem, y0, y1]) rfl ⟨rfl, hbe⟩

set_option maxRecDepth 100000 in
set_option maxHeartbeats 4000000 in
theorem mean16_bad (A : Option Addr) (n c : Nat) (f : Nat → Int) (w : World) (hl : IntsV w A n c f) (hbad : ¬ (1 ≤ n ∧ Fit f n)) :
    Calls Tryz.prog 16 #[.slice A n c] w fun e w' => e = .returned (.tuple #[.agg #[.string ⟨#[]⟩, .string ⟨#[]⟩], .bool false]) ∧ Below w.heap.size w w' := by
  have g0 := heap_alloc_new w (.cells #[.string ⟨#[]⟩, .string ⟨#[]⟩] 26)
  have hbW := below_alloc w #[.string ⟨#[]⟩, .string ⟨#[]⟩] 26
  have hl1 := hl.below hbW
  obtain ⟨o, ho⟩ := fit_or f n
  have HO := Lib.hid ho
  have z0 := free_of_block g0
  have z1 := cells2 g0
  obtain ⟨y0, y1⟩ := ret2 (A := ⟨#[]⟩) (B := ⟨#[]⟩) g0
  have hbe := below_sets2 hbW (Nat.le_refl _) (.string ⟨#[]⟩) (.string ⟨#[]⟩)
  clear hbW hl
  cases o with
  | false =>
    clear hbad
    go_enter Tryz.func16, Tryz.ntmps16
    go_wp2_with fail
    generalize w.alloc (.cells #[.string ⟨#[]⟩, .string ⟨#[]⟩] 26) = W at *
    refine (fits_at HO.out hl1).mono ?_
    rintro e w' ⟨rfl, rfl⟩
    go_wp2_with fail
    exact bodyPost_ret (v := .tuple #[.agg #[.string ⟨#[]⟩, .string ⟨#[]⟩], .bool false]) (by simp [results, Tryz.results16, go_sem, y0, y1]) rfl ⟨rfl, hbe⟩
  | true =>
    have hn0 : ((n : Int) == 0) = true := by
      have : ¬ 1 ≤ n := fun h => hbad ⟨h, ho.out.1 rfl⟩
      simp; omega
    clear hbad
    go_enter Tryz.func16, Tryz.ntmps16
    go_wp2_with fail
    generalize w.alloc (.cells #[.string ⟨#[]⟩, .string ⟨#[]⟩] 26) = W at *
    refine (fits_at HO.out hl1).mono ?_
    rintro e w' ⟨rfl, rfl⟩
    go_wp2_with fail
    exact bodyPost_ret (v := .tuple #[.agg #[.string ⟨#[]⟩, .string ⟨#[]⟩], .bool false]) (by simp [results, Tryz.results16, go_sem, y0, y1]) rfl ⟨rfl, hbe⟩

set_option maxRecDepth 100000 in
set_option maxHeartbeats 4000000 in
theorem cov18 (A B : Option Addr) (n ca cb : Nat) (f g : Nat → Int) (X Y : ByteArray) (w : World) (hl : IntsV w A n ca f) (hm : IntsV w B n cb g) (hf : Fit f n) (hg : Fit g n) (h2 : 2 ≤ n) (hT : Tx X Y (covQ f g n)) :
    Calls Tryz.prog 18 #[.slice A n ca, .slice B n cb] w fun e w' => e = .returned (.tuple #[.agg #[.string X, .string Y], .bool true]) ∧ Below w.heap.size w w' := by
  have g0 := heap_alloc_new w (.cells #[.string ⟨#[]⟩, .string ⟨#[]⟩] 26)
  have hbW := below_alloc w #[.string ⟨#[]⟩, .string ⟨#[]⟩] 26
  have hl1 := hl.below hbW
  have hm1 := hm.below hbW
  have HO := Lib.hid (show FitB true f n from ⟨⟨fun _ => hf, fun _ => rfl⟩⟩)
  have HO' := Lib.hid (show FitB true g n from ⟨⟨fun _ => hg, fun _ => rfl⟩⟩)
  have HC := Lib.hid (fun w hl hm => covr29 A B n ca cb f g w hl hm hf hg h2)
  have HT := Lib.hid (And.intro (rs_of (cov_E2 hf hg h2) (by omega) (by omega)) hT)
  have hn2 : (2 : Int) ≤ n := by omega
  clear hf hT hl hg hm h2
  go_enter Tryz.func18, Tryz.ntmps18
  go_wp2_with fail
  generalize w.alloc (.cells #[.string ⟨#[]⟩, .string ⟨#[]⟩] 26) = W at *
  refine (fits_at HO.out hl1).mono ?_
  rintro e w' ⟨rfl, rfl⟩
  go_wp2_with fail
  refine (fits_at HO'.out hm1).mono ?_
  rintro e w' ⟨rfl, rfl⟩
  go_wp2_with fail
  refine (HC.out _ hl1 hm1).mono ?_
  rintro e w1 ⟨v, rfl, hv, b1⟩
  go_wp2_with fail
  refine (write_tx HT.out.1 hv HT.out.2).mono ?_
  rintro e w2 ⟨rfl, b2⟩
  have b3 := below_trans' b1 b1.size b2
  have G := blk_below b3 g0
  have z0 := free_of_block G
  have z1 := cells2 G
  obtain ⟨y0, y1⟩ := ret2 (A := X) (B := Y) G
  have hbe := below_sets2 (below_trans' hbW hbW.size b3) (Nat.le_refl _) (.string X) (.string Y)
  clear b1 b2 b3 hv hl1 hm1 hbW g0 G
  go_wp2_with fail
  exact bodyPost_ret (v := .tuple #[.agg #[.string X, .string Y], .bool true]) (by simp [results, Tryz.results18, go_sem, y0, y1]) rfl ⟨rfl, hbe⟩

set_option maxRecDepth 100000 in
set_option maxHeartbeats 8000000 in
theorem cov18_bad (A B : Option Addr) (n m ca cb : Nat) (f g : Nat → Int) (w : World) (hl : IntsV w A n ca f) (hm : IntsV w B m cb g) (hbad : ¬ (m = n ∧ 2 ≤ n ∧ Fit f n ∧ Fit g n)) :
    Calls Tryz.prog 18 #[.slice A n ca, .slice B m cb] w fun e w' => e = .returned (.tuple #[.agg #[.string ⟨#[]⟩, .string ⟨#[]⟩], .bool false]) ∧ Below w.heap.size w w' := by
  have g0 := heap_alloc_new w (.cells #[.string ⟨#[]⟩, .string ⟨#[]⟩] 26)
  have hbW := below_alloc w #[.string ⟨#[]⟩, .string ⟨#[]⟩] 26
  have hl1 := hl.below hbW
  have hm1 := hm.below hbW
  obtain ⟨o, ho⟩ := fit_or f n
  obtain ⟨o', ho'⟩ := fit_or g m
  have HO := Lib.hid ho
  have HO' := Lib.hid ho'
  have z0 := free_of_block g0
  have z1 := cells2 g0
  obtain ⟨y0, y1⟩ := ret2 (A := ⟨#[]⟩) (B := ⟨#[]⟩) g0
  have hbe := below_sets2 hbW (Nat.le_refl _) (.string ⟨#[]⟩) (.string ⟨#[]⟩)
  have HB := Lib.hid hbad
  clear hbW hl hm hbad ho ho'
  cases o with
  | false =>
    go_enter Tryz.func18, Tryz.ntmps18
    go_wp2_with fail
    generalize w.alloc (.cells #[.string ⟨#[]⟩, .string ⟨#[]⟩] 26) = W at *
    refine (fits_at HO.out hl1).mono ?_
    rintro e w' ⟨rfl, rfl⟩
    go_wp2_with fail
    exact bodyPost_ret (v := .tuple #[.agg #[.string ⟨#[]⟩, .string ⟨#[]⟩], .bool false]) (by simp [results, Tryz.results18, go_sem, y0, y1]) rfl ⟨rfl, hbe⟩
  | true =>
    cases o' with
    | false =>
      go_enter Tryz.func18, Tryz.ntmps18
      go_wp2_with fail
      generalize w.alloc (.cells #[.string ⟨#[]⟩, .string ⟨#[]⟩] 26) = W at *
      refine (fits_at HO.out hl1).mono ?_
      rintro e w' ⟨rfl, rfl⟩
      go_wp2_with fail
      refine (fits_at HO'.out hm1).mono ?_
      rintro e w' ⟨rfl, rfl⟩
      go_wp2_with fail
      exact bodyPost_ret (v := .tuple #[.agg #[.string ⟨#[]⟩, .string ⟨#[]⟩], .bool false]) (by simp [results, Tryz.results18, go_sem, y0, y1]) rfl ⟨rfl, hbe⟩
    | true =>
      by_cases hne : m = n
      · subst hne
        have hn2 : (m : Int) < 2 := by
          have : ¬ 2 ≤ m := fun h => HB.out ⟨rfl, h, HO.out.out.1 rfl, HO'.out.out.1 rfl⟩
          omega
        go_enter Tryz.func18, Tryz.ntmps18
        go_wp2_with fail
        generalize w.alloc (.cells #[.string ⟨#[]⟩, .string ⟨#[]⟩] 26) = W at *
        refine (fits_at HO.out hl1).mono ?_
        rintro e w' ⟨rfl, rfl⟩
        go_wp2_with fail
        refine (fits_at HO'.out hm1).mono ?_
        rintro e w' ⟨rfl, rfl⟩
        go_wp2_with fail
        exact bodyPost_ret (v := .tuple #[.agg #[.string ⟨#[]⟩, .string ⟨#[]⟩], .bool false]) (by simp [results, Tryz.results18, go_sem, y0, y1]) rfl ⟨rfl, hbe⟩
      · have hnf : ¬ (n : Int) = (m : Int) := by omega
        clear hne
        go_enter Tryz.func18, Tryz.ntmps18
        go_wp2_with fail
        generalize w.alloc (.cells #[.string ⟨#[]⟩, .string ⟨#[]⟩] 26) = W at *
        refine (fits_at HO.out hl1).mono ?_
        rintro e w' ⟨rfl, rfl⟩
        go_wp2_with fail
        refine (fits_at HO'.out hm1).mono ?_
        rintro e w' ⟨rfl, rfl⟩
        go_wp2_with fail
        exact bodyPost_ret (v := .tuple #[.agg #[.string ⟨#[]⟩, .string ⟨#[]⟩], .bool false]) (by simp [results, Tryz.results18, go_sem, y0, y1]) rfl ⟨rfl, hbe⟩

set_option maxRecDepth 100000 in
set_option maxHeartbeats 4000000 in
theorem est26 (n : Int) (f g : Value) (x y : Rat) (X Y V W : ByteArray) (w : World) (hx : RS 400 x) (hy : RS 400 y) (h1 : FrR w f x) (h2 : FrR w g y) (t1 : Tx X Y x) (t2 : Tx V W y) :
    Calls Tryz.prog 26 #[.int .i64 n, f, g] w fun e w' => e = .returned (.tuple #[estV n X Y V W, .bool true]) ∧ Below w.heap.size w w' := by
  obtain ⟨s1, A1, n1, c1, A2, n2, c2, rfl, f1⟩ := FrR.sh h1
  obtain ⟨s2, A3, n3, c3, A4, n4, c4, rfl, f2⟩ := FrR.sh h2
  obtain ⟨hbW, g0, g1, g2⟩ := allocs3 w #[.bool s1, .slice A1 n1 c1, .slice A2 n2 c2] #[.bool s2, .slice A3 n3 c3, .slice A4 n4 c4] #[.int .i64 0, .string ⟨#[]⟩, .string ⟨#[]⟩, .string ⟨#[]⟩, .string ⟨#[]⟩] 57 57 28
  have f1' := f1.below hbW
  have f2' := f2.below hbW
  have z0 := cells3 g0
  have HT := Lib.hid (And.intro (And.intro hx hy) (And.intro t1 t2))
  clear hx hy t1 t2 h1 h2 f1 f2
  go_enter Tryz.func26, Tryz.ntmps26
  go_wp2_with fail
  generalize ((w.alloc (.cells #[.bool s1, .slice A1 n1 c1, .slice A2 n2 c2] 57)).alloc (.cells #[.bool s2, .slice A3 n3 c3, .slice A4 n4 c4] 57)).alloc (.cells #[.int .i64 0, .string ⟨#[]⟩, .string ⟨#[]⟩, .string ⟨#[]⟩, .string ⟨#[]⟩] 28) = W0 at *
  refine (write_tx HT.out.1.1 f1' HT.out.2.1).mono ?_
  rintro e w1 ⟨rfl, b1⟩
  have b2 := below_alloc w1 #[.string X, .string Y] 26
  have b3 := below_trans' b1 b1.size b2
  have p0 := heap_alloc_new w1 (.cells #[.string X, .string Y] 26)
  have z1 := cells3 (blk_below b3 g1)
  have f2'' := f2'.below b3
  have hlt := lt_of_blk (blk_below b1 g2)
  clear z0 f1' f2'
  go_wp2_with fail
  generalize w1.alloc (.cells #[.string X, .string Y] 26) = W1 at *
  refine (write_tx HT.out.1.2 f2'' HT.out.2.2).mono ?_
  rintro e w2 ⟨rfl, b4⟩
  have b5 := below_alloc w2 #[.string V, .string W] 26
  have b6 := below_trans' b4 b4.size b5
  have b7 := below_trans' b3 b3.size b6
  have p1 := cells2 (blk_below b6 p0)
  have p2 := cells2 (heap_alloc_new w2 (.cells #[.string V, .string W] 26))
  have G := blk_below b7 g2
  have z2 := free_of_block G
  have z3 := cells5 G
  obtain ⟨y0, y1, y2, y3, y4⟩ := cells5 (set5 G (.int .i64 n) (.string X) (.string Y) (.string V) (.string W))
  have hbe := below_sets5 (below_trans' hbW hbW.size b7) (show w.heap.size ≤ w.heap.size + 1 + 1 by omega) (.int .i64 n) (.string X) (.string Y) (.string V) (.string W)
  clear b1 b2 b3 b4 b5 b6 b7 z1 f2'' g0 g1 g2 G hbW p0 hlt
  go_wp2_with fail
  exact bodyPost_ret (v := .tuple #[estV n X Y V W, .bool true]) (by simp [results, Tryz.results26, go_sem, y0, y1, y2, y3, y4]) rfl ⟨rfl, hbe⟩

set_option maxRecDepth 100000 in
set_option maxHeartbeats 4000000 in
theorem of7 (A : Option Addr) (n c : Nat) (f : Nat → Int) (X Y V W : ByteArray) (w : World) (hl : IntsV w A n c f) (hf : Fit f n) (h2 : 2 ≤ n) (hT : Tx X Y (meanQ f n)) (hU : Tx V W (varQ f n)) :
    Calls Tryz.prog 7 #[.slice A n c] w fun e w' => e = .returned (.tuple #[estV n X Y V W, .bool true]) ∧ Below w.heap.size w w' := by
  have g0 := heap_alloc_new w (.cells #[.int .i64 0, .string ⟨#[]⟩, .string ⟨#[]⟩, .string ⟨#[]⟩, .string ⟨#[]⟩] 28)
  have hbW := below_alloc w #[.int .i64 0, .string ⟨#[]⟩, .string ⟨#[]⟩, .string ⟨#[]⟩, .string ⟨#[]⟩] 28
  have hl1 := hl.below hbW
  have hn5 := hf.1
  have HO := Lib.hid (show FitB true f n from ⟨⟨fun _ => hf, fun _ => rfl⟩⟩)
  have HM := Lib.hid (fun w hl => mean27 A n c f w hl hf (by omega))
  have HC := Lib.hid (fun w hl => covr29 A A n c c f f w hl hl hf hf h2)
  have HN := Lib.hid (fun w => num30 n w (by omega) (by omega))
  have HD := Lib.hid (fun w (v u : Value) h g => over83 400 v u (covQ f f n) (frQ n 1) w (by omega) (fr_ne (by omega) (by decide)) (rs_of (cov_E2 hf hf h2) (by omega) (by omega)) (rs_of (n_E2 hn5) (by omega) (by omega)) h g)
  have HT := Lib.hid (And.intro (And.intro (rs_of (mean_E2 hf (by omega)) (by omega) (by omega)) (rs_of (var_E2 hf h2) (by omega) (by omega))) (And.intro hT hU))
  have hn2 : (2 : Int) ≤ n := by omega
  clear hf hT hU hl h2 hn5
  go_enter Tryz.func7, Tryz.ntmps7
  go_wp2_with fail
  generalize w.alloc (.cells #[.int .i64 0, .string ⟨#[]⟩, .string ⟨#[]⟩, .string ⟨#[]⟩, .string ⟨#[]⟩] 28) = W0 at *
  refine (fits_at HO.out hl1).mono ?_
  rintro e w' ⟨rfl, rfl⟩
  go_wp2_with fail
  refine (HM.out _ hl1).mono ?_
  rintro e w1 ⟨v1, rfl, hv1, b1⟩
  go_wp2_with fail
  refine (HC.out _ (hl1.below b1)).mono ?_
  rintro e w2 ⟨v2, rfl, hv2, b2⟩
  go_wp2_with fail
  refine (HN.out _).mono ?_
  rintro e w3 ⟨v3, rfl, hv3, b3⟩
  go_wp2_with fail
  refine (HD.out _ _ _ (hv2.below b3) hv3).mono ?_
  rintro e w4 ⟨v4, rfl, hv4, b4⟩
  go_wp2_with fail
  have b34 := below_trans' b3 b3.size b4
  have b24 := below_trans' b2 b2.size b34
  refine (est26 n v1 v4 _ _ X Y V W w4 HT.out.1.1 HT.out.1.2 (hv1.below b24) hv4 HT.out.2.1 HT.out.2.2).mono ?_
  rintro e w5 ⟨rfl, b5⟩
  have b14 := below_trans' b1 b1.size b24
  have b15 := below_trans' b14 b14.size b5
  have G := blk_below b15 g0
  have z0 := free_of_block G
  have z1 := cells5 G
  obtain ⟨y0, y1, y2, y3, y4⟩ := cells5 (set5 G (.int .i64 n) (.string X) (.string Y) (.string V) (.string W))
  have hbe := below_sets5 (below_trans' hbW hbW.size b15) (Nat.le_refl _) (.int .i64 n) (.string X) (.string Y) (.string V) (.string W)
  clear b1 b2 b3 b4 b5 b34 b24 b14 b15 hv1 hv2 hv3 hv4 hl1 hbW g0 G
  go_wp2_with fail
  exact bodyPost_ret (v := .tuple #[estV n X Y V W, .bool true]) (by simp [results, Tryz.results7, go_sem, y0, y1, y2, y3, y4]) rfl ⟨rfl, hbe⟩

set_option maxRecDepth 100000 in
set_option maxHeartbeats 4000000 in
theorem of7_bad (A : Option Addr) (n c : Nat) (f : Nat → Int) (w : World) (hl : IntsV w A n c f) (hbad : ¬ (2 ≤ n ∧ Fit f n)) :
    Calls Tryz.prog 7 #[.slice A n c] w fun e w' => e = .returned (.tuple #[estV 0 ⟨#[]⟩ ⟨#[]⟩ ⟨#[]⟩ ⟨#[]⟩, .bool false]) ∧ Below w.heap.size w w' := by
  have g0 := heap_alloc_new w (.cells #[.int .i64 0, .string ⟨#[]⟩, .string ⟨#[]⟩, .string ⟨#[]⟩, .string ⟨#[]⟩] 28)
  have hbW := below_alloc w #[.int .i64 0, .string ⟨#[]⟩, .string ⟨#[]⟩, .string ⟨#[]⟩, .string ⟨#[]⟩] 28
  have hl1 := hl.below hbW
  obtain ⟨o, ho⟩ := fit_or f n
  have HO := Lib.hid ho
  have z0 := free_of_block g0
  have z1 := cells5 g0
  obtain ⟨y0, y1, y2, y3, y4⟩ := cells5 (set5 g0 (.int .i64 0) (.string ⟨#[]⟩) (.string ⟨#[]⟩) (.string ⟨#[]⟩) (.string ⟨#[]⟩))
  have hbe := below_sets5 hbW (Nat.le_refl _) (.int .i64 0) (.string ⟨#[]⟩) (.string ⟨#[]⟩) (.string ⟨#[]⟩) (.string ⟨#[]⟩)
  clear hbW hl
  cases o with
  | false =>
    clear hbad
    go_enter Tryz.func7, Tryz.ntmps7
    go_wp2_with fail
    generalize w.alloc (.cells #[.int .i64 0, .string ⟨#[]⟩, .string ⟨#[]⟩, .string ⟨#[]⟩, .string ⟨#[]⟩] 28) = W at *
    refine (fits_at HO.out hl1).mono ?_
    rintro e w' ⟨rfl, rfl⟩
    go_wp2_with fail
    exact bodyPost_ret (v := .tuple #[estV 0 ⟨#[]⟩ ⟨#[]⟩ ⟨#[]⟩ ⟨#[]⟩, .bool false]) (by simp [results, Tryz.results7, go_sem, y0, y1, y2, y3, y4]) rfl ⟨rfl, hbe⟩
  | true =>
    have hn0 : (n : Int) < 2 := by
      have : ¬ 2 ≤ n := fun h => hbad ⟨h, ho.out.1 rfl⟩
      omega
    clear hbad
    go_enter Tryz.func7, Tryz.ntmps7
    go_wp2_with fail
    generalize w.alloc (.cells #[.int .i64 0, .string ⟨#[]⟩, .string ⟨#[]⟩, .string ⟨#[]⟩, .string ⟨#[]⟩] 28) = W at *
    refine (fits_at HO.out hl1).mono ?_
    rintro e w' ⟨rfl, rfl⟩
    go_wp2_with fail
    exact bodyPost_ret (v := .tuple #[estV 0 ⟨#[]⟩ ⟨#[]⟩ ⟨#[]⟩ ⟨#[]⟩, .bool false]) (by simp [results, Tryz.results7, go_sem, y0, y1, y2, y3, y4]) rfl ⟨rfl, hbe⟩
end Go.Proofs.YtpligjkbnlfhgaaGreatDoor
