/- The walk of EstimateReduces. -/
import Derived.Test.YtpligjkbnlfhgaaDoorEstimateCovariances
namespace Go.Proofs.YtpligjkbnlfhgaaDoor
open Go.RowKit

theorem OwnF.row {w : World} {B n : Nat} {v : Value} {f : Nat → Int} (h : OwnF w B v n f) : ∃ l : List Int, l.length = n ∧ (∀ i, i < n → l.getD i 0 = f i) ∧ w.ownsRow B 3 1 v n (l.flatMap intC) := by
  obtain ⟨l, rfl, h2, h3⟩ := h
  exact ⟨l, rfl, h2, h3⟩
theorem OwnF.of_row {w : World} {B n : Nat} {v : Value} {f : Nat → Int} {l : List Int} (hl : l.length = n) (hf : ∀ i, i < n → l.getD i 0 = f i) (h : w.ownsRow B 3 1 v n (l.flatMap intC)) : OwnF w B v n f := by
  subst hl
  exact ⟨l, rfl, hf, h⟩
theorem row_grown {w w' : World} {B n : Nat} {v : Value} {xs : List Value} {row : Option Nat} (h : w.ownsRow B 3 1 v n xs) (hg : w.grownBy w' row) (hne : ∀ g, v.ownBlock = some g → row ≠ some g) : w'.ownsRow B 3 1 v n xs :=
  World.ownsRow.kept h hg (by cases hv : v.ownBlock with
    | none => exact .inl rfl
    | some k => exact .inr (fun he => hne k hv he.symm))
theorem OwnF.of_snoc {w : World} {B n : Nat} {v : Value} {f : Nat → Int} {l : List Int} {x : Int} (hl : l.length = n) (hf : ∀ i, i < n → l.getD i 0 = f i) (hx : x = f n) (h : w.ownsRow B 3 1 v (n + 1) (l.flatMap intC ++ [.int .i64 x])) : OwnF w B v (n + 1) f := by
  subst hl
  exact ⟨_, by simp, getD_snoc hf hx, Own.snoc (c := intC) h⟩
theorem OwnF.grown {w w' : World} {B n : Nat} {v : Value} {f : Nat → Int} {row : Option Nat} (h : OwnF w B v n f) (hg : w.grownBy w' row) (hne : ∀ g, v.ownBlock = some g → row ≠ some g) : OwnF w' B v n f := by
  obtain ⟨l, h1, h2, h3⟩ := h
  exact ⟨l, h1, h2, World.ownsRow.kept h3 hg (by cases hv : v.ownBlock with
    | none => exact .inl rfl
    | some k => exact .inr (fun he => hne k hv he.symm))⟩
theorem OwnF.lt {w : World} {B n : Nat} {v : Value} {f : Nat → Int} (h : OwnF w B v n f) {g : Nat} (hg : v.ownBlock = some g) : g < w.heap.size := by
  obtain ⟨l, h1, h2, h3⟩ := h
  exact (Own.lt h3 hg).1
theorem tx_50 {A B : ByteArray} {x : Rat} {a b : Nat} (T : Tx A B x) (h : E2 a b x) (ha : a ≤ 160) (hb : b ≤ 160) : A.size ≤ 50 ∧ B.size ≤ 50 := by
  have e := T.2
  unfold txt at e
  simp only [Prod.mk.injEq] at e
  have p1 : (2 : Nat) ^ 160 < 10 ^ 49 := by decide
  have l1 : (decT x.num.natAbs).length ≤ 49 := (decT_len _ (by decide)).2 (Nat.lt_of_le_of_lt (Nat.le_trans h.num (Nat.pow_le_pow_right (by decide) ha)) p1)
  have l2 : (decT x.den).length ≤ 49 := (decT_len _ (by decide)).2 (Nat.lt_of_le_of_lt (Nat.le_trans h.den (Nat.pow_le_pow_right (by decide) hb)) p1)
  have s1 : A.size = (signT (decide (x.num < 0)) (decT x.num.natAbs)).length := by rw [e.1]; simp
  have s2 : B.size = (decT x.den).length := by rw [e.2]; simp
  have l3 : (signT (decide (x.num < 0)) (decT x.num.natAbs)).length ≤ (decT x.num.natAbs).length + 1 := by unfold signT; split <;> simp
  omega
theorem red_line (y : Int) : -3999 ≤ y.tmod 4000 ∧ y.tmod 4000 ≤ 3999 := by have := tmod_i64 y 4000 (by decide); omega
theorem red_mul {y k : Int} (h : -128 ≤ k ∧ k ≤ 127) : -511872 ≤ y.tmod 4000 * k ∧ y.tmod 4000 * k ≤ 511872 := by
  have := mulI_bd (a := 3999) (b := 128) (by decide) (red_line y) (show -128 ≤ k ∧ k ≤ 128 by omega)
  omega

set_option maxRecDepth 100000 in
set_option maxHeartbeats 16000000 in
theorem estimateReduces14 (a0 : Option Addr) (len0 cap0 : Nat) (a1 a2 a3 : Int) (w : World) (w0 : IsRows pK w a0 len0 cap0) (s0 : cap0 * 8 ≤ 140737488351232) (w1 : (Lit.int .u8 a1).wf = true) (w2 : (Lit.int .i8 a2).wf = true) (w3 : (Lit.int .i16 a3).wf = true) :
    Calls Tryd.prog 14 #[.slice a0 len0 cap0, .int .u8 a1, .int .i8 a2, .int .i16 a3] w fun e w' => e = .returned (.bool true) ∧ Below w.heap.size w w' := by
  have hs := bounds_u8 w1
  have hkb := bounds_i8 w2
  have hcb := bounds_i16 w3
  have hlc := w0.1
  obtain ⟨i0, hi, hz0, hz1, hz2⟩ := info_parts info3n
  obtain ⟨-, f, g, hr, hf, hg⟩ := rows_pairs w0
  have hn8 : len0 * 8 ≤ 140737488351232 := by omega
  have HP := Lib.hid (fun w (hr : Rd32 w a0 len0 f g) => pair42 a0 len0 cap0 a1 f g w hs hr hf hg hn8)
  obtain ⟨F, hF⟩ : ∃ F : Nat → Int, (fun i => numN a1 (f i)) = F := ⟨_, rfl⟩
  obtain ⟨G, hG⟩ : ∃ G : Nat → Int, (fun i => numN (a1 / 4) (g i)) = G := ⟨_, rfl⟩
  have bF : ∀ i, -1048576 ≤ F i ∧ F i ≤ 1048576 := fun i => by rw [← hF]; exact numN_bd _ _
  have bG : ∀ i, -1048576 ≤ G i ∧ G i ≤ 1048576 := fun i => by rw [← hG]; exact numN_bd _ _
  rw [hF, hG] at HP
  obtain ⟨k, hk⟩ : ∃ k, min len0 60 = k := ⟨_, rfl⟩
  rw [hk] at HP
  have hk60 : k ≤ 60 := by omega
  clear w0 w1 w2 w3 hf hg hF hG hk s0 hlc
  go_enter Tryd.func14, Tryd.ntmps14
  go_wp2_with fail
  refine (awake35 w).mono ?_
  rintro e u0 ⟨rfl, hb0⟩
  go_wp2_with fail
  refine (HP.out u0 (hr.below hb0)).mono ?_
  rintro e u1 ⟨A1, c1, A2, c2, rfl, o1, o2, -, hb1⟩
  have hbr := below_trans' hb0 hb0.size hb1
  clear HP hb1 hb0 hr
  by_cases h2 : k < 2
  · have h2I : (k : Int) < 2 := by omega
    go_wp2_with fail
    go_ret
    exact ⟨rfl, hbr⟩
  have h2I : ¬ (k : Int) < 2 := by omega
  have i1 := o1.intsV
  have i2 := o2.intsV
  clear o1 o2
  -- the contracts
  have k2 : 2 ≤ k := by omega
  have fF : Fit F k := ⟨by omega, fun i _ => bF i⟩
  have fG : Fit G k := ⟨by omega, fun i _ => bG i⟩
  have fL : Fit (fun i => (G i).tmod 4000) k := ⟨by omega, fun i _ => by have := red_line (G i); show -1048576 ≤ (G i).tmod 4000 ∧ (G i).tmod 4000 ≤ 1048576; omega⟩
  have fS : Fit (fun i => a2 * (G i).tmod 4000 + a3) k := ⟨by omega, fun i _ => by
    have := red_mul (y := G i) hkb
    rw [Int.mul_comm] at this
    show -1048576 ≤ a2 * (G i).tmod 4000 + a3 ∧ a2 * (G i).tmod 4000 + a3 ≤ 1048576; omega⟩
  obtain ⟨M1, M2, -, TM⟩ := txV_tx ((mean_E2 fG (by omega)).fits (by decide) (by decide))
  have hM := tx_50 TM (mean_E2 fG (by omega)) (by decide) (by decide)
  obtain ⟨P1, P2, -, TP⟩ := txV_tx ((mean_E2 fF (by omega)).fits (by decide) (by decide))
  obtain ⟨V1, V2, -, TV⟩ := txV_tx ((var_E2 fF k2).fits (by decide) (by decide))
  obtain ⟨W1, W2, -, TW⟩ := txV_tx ((adjV_E2 fF fG k2).2.2.2.2.2.2.fits (by decide) (by decide))
  have TP' : Tx P1 P2 (adjM F G k (meanQ G k)) := by rw [adj_center]; exact TP
  have zc : E2 20 0 (frQ a3 1) := num_E2 (by omega)
  have z0 : E2 20 0 (frQ 0 1) := num_E2 (by decide)
  obtain ⟨K1, K2, TK, hK⟩ := frac37 (a := a3) (b := 1) (by decide) (by omega) (by omega) (by decide) (by decide) (zc.fits (by decide) (by decide))
  obtain ⟨O1, O2, TO, hO⟩ := frac37 (a := 0) (b := 1) (by decide) (by decide) (by decide) (by decide) (by decide) (z0.fits (by decide) (by decide))
  have hK5 := tx_50 TK zc (by decide) (by decide)
  have hO5 := tx_50 TO z0 (by decide) (by decide)
  obtain ⟨X1, X2, -, TX⟩ := txV_tx ((adjM_E2 fF fS k2 (zc.mono (by decide) (by decide))).2.2.fits (by decide) (by decide))
  obtain ⟨X3, X4, -, TX'⟩ := txV_tx ((adjV_E2 fF fS k2).2.2.2.2.2.2.fits (by decide) (by decide))
  obtain ⟨Y1, Y2, -, TY⟩ := txV_tx ((adjM_E2 fF fL k2 (z0.mono (by decide) (by decide))).2.2.fits (by decide) (by decide))
  obtain ⟨Y3, Y4, -, TY'⟩ := txV_tx ((adjV_E2 fF fL k2).2.2.2.2.2.2.fits (by decide) (by decide))
  obtain ⟨Z1, Z2, -, TZ⟩ := txV_tx ((adjM_E2 fS fL k2 (z0.mono (by decide) (by decide))).2.2.fits (by decide) (by decide))
  obtain ⟨Z3, Z4, -, TZ'⟩ := txV_tx ((adjV_E2 fS fL k2).2.2.2.2.2.2.fits (by decide) (by decide))
  obtain ⟨S1, S2, -, TS⟩ := txV_tx ((cov_E2 fL fL k2).fits (by decide) (by decide))
  have hXY : a2 ≠ 0 → X1 = Y1 ∧ X2 = Y2 ∧ X3 = Y3 ∧ X4 = Y4 := fun ha => by
    obtain ⟨e1, e2⟩ := adj_scaled (f := F) (g := fun i => (G i).tmod 4000) (n := k) (c := a3) ha (by omega)
    rw [e1] at TX
    rw [e2] at TX'
    obtain ⟨h1, h2⟩ := TX.inj TY
    obtain ⟨h3, h4⟩ := TX'.inj TY'
    exact ⟨h1, h2, h3, h4⟩
  have hSZ : S1 = ⟨#[48]⟩ ∨ S1.toList ≠ [48] ∧ Z3 = ⟨#[48]⟩ ∧ Z1 = K1 ∧ Z2 = K2 := by
    by_cases h0 : covQ (fun i => (G i).tmod 4000) (fun i => (G i).tmod 4000) k = 0
    · left
      rw [h0] at TS
      have := num_zero TS
      rw [ByteArray.toList_eq] at this
      exact ba_ext (by rw [this])
    · right
      obtain ⟨e1, e2⟩ := adj_all (g := fun i => (G i).tmod 4000) (n := k) (k := a2) (c := a3) (by omega) h0
      rw [e1] at TZ
      rw [e2] at TZ'
      obtain ⟨h1, h2⟩ := TZ.inj TK
      have h3 := num_zero TZ'
      rw [ByteArray.toList_eq] at h3
      refine ⟨(num_head TS h0).1, ba_ext (by rw [h3]), h1, h2⟩
  have C1 := Lib.hid (fun w (h : IntsV w A2 k c2 G) => mean44 _ k c2 _ M1 M2 w h fG (by omega) TM)
  have C2 := Lib.hid (fun w (h : IntsV w A1 k c1 F) => of36 _ k c1 _ P1 P2 V1 V2 w h fF k2 TP TV)
  have C3 := Lib.hid (fun w (h : IntsV w A1 k c1 F) (h' : IntsV w A2 k c2 G) => adjusted46 _ _ k c1 c2 _ _ _ M1 M2 P1 P2 W1 W2 w h h' fF fG k2 TM hM.1 hM.2 TP' TW)
  have C34 := Lib.hid (refCmp TW TV (adj_le k2))
  have GK : Hid (∀ w, Calls Tryd.prog 37 #[.int .i64 a3, .int .i64 1] w fun e w' => e = .returned (.agg #[.string K1, .string K2]) ∧ Below w.heap.size w w') := Lib.hid fun w => hK w
  have GO : Hid (∀ w, Calls Tryd.prog 37 #[.int .i64 0, .int .i64 1] w fun e w' => e = .returned (.agg #[.string O1, .string O2]) ∧ Below w.heap.size w w') := Lib.hid fun w => hO w
  have D1 := Lib.hid (fun w As cs (h : IntsV w A1 k c1 F) (h' : IntsV w As k cs (fun i => a2 * (G i).tmod 4000 + a3)) => adjusted46 _ _ k c1 cs _ _ _ K1 K2 X1 X2 X3 X4 w h h' fF fS k2 TK hK5.1 hK5.2 TX TX')
  have D2 := Lib.hid (fun w Al cl (h : IntsV w A1 k c1 F) (h' : IntsV w Al k cl (fun i => (G i).tmod 4000)) => adjusted46 _ _ k c1 cl _ _ _ O1 O2 Y1 Y2 Y3 Y4 w h h' fF fL k2 TO hO5.1 hO5.2 TY TY')
  have D3 := Lib.hid (fun w As cs Al cl (h : IntsV w As k cs (fun i => a2 * (G i).tmod 4000 + a3)) (h' : IntsV w Al k cl (fun i => (G i).tmod 4000)) => adjusted46 _ _ k cs cl _ _ _ O1 O2 Z1 Z2 Z3 Z4 w h h' fS fL k2 TO hO5.1 hO5.2 TZ TZ')
  have D4 := Lib.hid (fun w Al cl (h' : IntsV w Al k cl (fun i => (G i).tmod 4000)) => covariance43 _ _ k cl cl _ _ S1 S2 w h' h' fL fL k2 TS)
  have BG := Lib.hid bG
  have HXY := Lib.hid hXY
  have HSZ := Lib.hid hSZ
  clear fF fG fL fS TM hM TP TV TW TP' zc z0 TK hK TO hO hK5 hO5 TX TX' TY TY' TZ TZ' TS hXY hSZ bF bG h2
  go_wp2_with fail
  refine (C1.out _ i2).mono ?_
  rintro e w1 ⟨rfl, hbq⟩
  have hst := below_trans' hbq hbq.size ((Below.refl w1.heap.size w1).alloc (Nat.le_refl _) (.cells #[.string M1, .string M2] 23))
  have t1 := heap_alloc_new w1 (.cells #[.string M1, .string M2] 23)
  replace i1 := i1.below hst
  replace i2 := i2.below hst
  replace hbr := below_trans' hbr hbr.size hst
  clear hst hbq
  go_wp2_with fail
  generalize w1.alloc (.cells #[.string M1, .string M2] 23) = v1 at *
  generalize w1.heap.size = N1 at *
  refine (C2.out _ i1).mono ?_
  rintro e w2 ⟨rfl, hbq⟩
  have hst := below_trans' hbq hbq.size ((Below.refl w2.heap.size w2).alloc (Nat.le_refl _) (.cells #[.int .i64 k, .string P1, .string P2, .string V1, .string V2] 48))
  have t2 := heap_alloc_new w2 (.cells #[.int .i64 k, .string P1, .string P2, .string V1, .string V2] 48)
  replace i1 := i1.below hst
  replace i2 := i2.below hst
  replace t1 := blk_below hst t1
  replace hbr := below_trans' hbr hbr.size hst
  clear hst hbq
  have m1 := cells2 t1
  go_wp2_with fail
  generalize w2.alloc (.cells #[.int .i64 k, .string P1, .string P2, .string V1, .string V2] 48) = v2 at *
  generalize w2.heap.size = N2 at *
  clear m1
  refine (C3.out _ i1 i2).mono ?_
  rintro e w3 ⟨rfl, hbq⟩
  have hst := below_trans' hbq hbq.size ((Below.refl w3.heap.size w3).alloc (Nat.le_refl _) (.cells #[.int .i64 k, .string P1, .string P2, .string W1, .string W2] 48))
  have t3 := heap_alloc_new w3 (.cells #[.int .i64 k, .string P1, .string P2, .string W1, .string W2] 48)
  replace i1 := i1.below hst
  replace i2 := i2.below hst
  replace t2 := blk_below hst t2
  replace hbr := below_trans' hbr hbr.size hst
  clear hst hbq
  have m2 := cells5 t2
  have m3 := cells5 t3
  go_wp2_with fail
  generalize w3.alloc (.cells #[.int .i64 k, .string P1, .string P2, .string W1, .string W2] 48) = v3 at *
  generalize w3.heap.size = N3 at *
  refine (C34.out _).mono ?_
  rintro e w4 ⟨⟨nn, hnn, rfl⟩, hbq⟩
  replace i1 := i1.below hbq
  replace i2 := i2.below hbq
  replace hbr := below_trans' hbr hbr.size hbq
  have m3 := cells5 (blk_below hbq t3)
  have hnI : ¬ (0 : Int) < nn := by omega
  clear m2 hbq
  go_wp2_with fail
  clear m3
  generalize w4 = we at *
  have hn60 : k ≤ 60 := hk60
  have HX1 : Hid (∀ w', Below we.heap.size we w' → IntsV w' A2 k c2 G) := Lib.hid fun w' h => i2.below h
  go_loopg [17, 18, 19] (k + 1) (fun m s l i wr => ∃ (j cs cl : Nat) (As Al : Option Addr), j ≤ k ∧ m = k + 1 - j ∧ i = .int .i64 j ∧ s = .slice As j cs ∧ l = .slice Al j cl ∧ OwnF wr we.heap.size (.slice As j cs) j (fun i => a2 * (G i).tmod 4000 + a3) ∧ OwnF wr we.heap.size (.slice Al j cl) j (fun i => (G i).tmod 4000) ∧ Hid (apartV (.slice As j cs) (.slice Al j cl)) ∧ Below we.heap.size we wr)
  case atStart => exact ⟨0, 0, 0, none, none, by omega, rfl, rfl, rfl, rfl, OwnF.nil _, OwnF.nil _, Lib.hid (fun _ h => by cases h), Below.refl _ _⟩
  case round =>
  obtain ⟨j, cs, cl, As, Al, hj, hm, rfl, rfl, rfl, O1', O2', hap, hbx⟩ := hrel
  have HM := Lib.hid hm
  clear hm
  by_cases hlt : j < k
  · have hltI : (j : Int) < k := by omega
    obtain ⟨b2, o2, rfl, hb2, hc2⟩ := (HX1.out _ (Below.refl _ _)).rd (by omega)
    have x0 := hc2 j hlt
    have ub := BG.out j
    obtain ⟨y, hy⟩ : ∃ y, G j = y := ⟨_, rfl⟩
    rw [hy] at x0 ub
    have HY := Lib.hid hy
    have XC : Hid (∀ w', Below we.heap.size we w' → w'.cell? ⟨b2, o2 + j, none⟩ = some (.int .i64 y)) := Lib.hid fun w' h => (h.cell (p := ⟨b2, o2 + j, none⟩) hb2).trans x0
    have x1 := XC.out _ hbx
    have hq1 := red_line y
    have hq2 := red_mul (y := y) hkb
    have hsz := hbx.size
    obtain ⟨l1, hl1, hf1, r1⟩ := O1'.row
    obtain ⟨l2, hl2, hf2, r2⟩ := O2'.row
    obtain ⟨v1, hv1⟩ : ∃ v, y.tmod 4000 * a2 + a3 = v := ⟨_, rfl⟩
    have HV1 := Lib.hid hv1
    -- behind the first append
    have K1' : Hid (∀ g' cap' w6, w6.ownsRow we.heap.size 3 1 (.slice (some ⟨g', 0, none⟩) (j + 1) cap') (j + 1) (l1.flatMap intC ++ [.int .i64 v1]) → (wr.alloc (.cells #[.int .i64 v1] 3)).grownBy w6 (Value.slice As j cs).ownBlock → ((Value.slice As j cs).ownBlock = some g' ∨ g' = wr.heap.size + 1) → OwnF w6 we.heap.size (.slice (some ⟨g', 0, none⟩) (j + 1) cap') (j + 1) (fun i => a2 * (G i).tmod 4000 + a3) ∧ w6.ownsRow we.heap.size 3 1 (.slice Al j cl) j (l2.flatMap intC) ∧ (∀ g, (Value.slice Al j cl).ownBlock = some g → g ≠ g') ∧ Below we.heap.size we w6) := Lib.hid fun g' cap' w6 ho hg hat => by
      refine ⟨OwnF.of_snoc hl1 hf1 (by rw [HY.out, ← HV1.out, Int.mul_comm]) ho, row_grown (World.ownsRow.alloc r2 _) hg fun g h1 h2 => hap.out g h2 h1, fun g h1 h2 => ?_, (hbx.alloc hbx.size _).grown hg (by simp; omega) (fun q hq => (World.ownsRow.lt r1 q hq).1)⟩
      subst h2
      rcases hat with h | h
      · exact hap.out g h h1
      · have := O2'.lt h1; omega
    have K2' : Hid (∀ g' cap' w6 g2 cap2 w7, OwnF w6 we.heap.size (.slice (some ⟨g', 0, none⟩) (j + 1) cap') (j + 1) (fun i => a2 * (G i).tmod 4000 + a3) → w6.ownsRow we.heap.size 3 1 (.slice Al j cl) j (l2.flatMap intC) → (∀ g, (Value.slice Al j cl).ownBlock = some g → g ≠ g') → Below we.heap.size we w6 → w7.ownsRow we.heap.size 3 1 (.slice (some ⟨g2, 0, none⟩) (j + 1) cap2) (j + 1) (l2.flatMap intC ++ [.int .i64 (y.tmod 4000)]) → (w6.alloc (.cells #[.int .i64 (y.tmod 4000)] 3)).grownBy w7 (Value.slice Al j cl).ownBlock → ((Value.slice Al j cl).ownBlock = some g2 ∨ g2 = w6.heap.size + 1) → OwnF w7 we.heap.size (.slice (some ⟨g', 0, none⟩) (j + 1) cap') (j + 1) (fun i => a2 * (G i).tmod 4000 + a3) ∧ OwnF w7 we.heap.size (.slice (some ⟨g2, 0, none⟩) (j + 1) cap2) (j + 1) (fun i => (G i).tmod 4000) ∧ g' ≠ g2 ∧ Below we.heap.size we w7) := Lib.hid fun g' cap' w6 g2 cap2 w7 q1 q2 hne hb6 ho hg hat => by
      have hA := (Below.refl w6.heap.size w6).alloc (Nat.le_refl _) (.cells #[.int .i64 (y.tmod 4000)] 3)
      have hg' := q1.lt (g := g') rfl
      have hsz6 := hb6.size
      refine ⟨(q1.below hA).grown hg fun g h1 h2 => hne g h2 (by injection h1 with h1; exact h1.symm), OwnF.of_snoc hl2 hf2 (by rw [HY.out]) ho, fun h2 => ?_, (hb6.alloc hb6.size _).grown hg (by simp; omega) (fun q hq => (World.ownsRow.lt q2 q hq).1)⟩
      subst h2
      rcases hat with h | h
      · exact hne _ h rfl
      · omega
    have hap' := hap
    clear hy hc2 x0 O1' O2' hap
    go_wp2_with (at_builtin; first
      | (refine wpList_append_lies _ (by rfl) (.tmp 90) (.tmp 102) 27 (by rfl) we.heap.size 3 i0 _ 1 8 Tryd.underlying27 hi hz0 hz1 hz2 rfl (by omega) _ _ _ (by rfl) (World.ownsRow.alloc r1 _) ⟨wr.heap.size, 0, none⟩ 1 1 [.int .i64 v1] (by rfl) (by rfl) (World.news_of_block (heap_alloc_new wr _)) (by simp [Value.oneCell']) (by omega) (by unfold maxLen; omega) (by omega) (by simp; omega) (wr.heap.size + 1) (by simp) ?_; intro g1 cap1 w6 hown6 hgrow hat hlt6; obtain ⟨q1, r2', hne, hb6⟩ := K1'.out _ _ _ hown6 hgrow hat; have x6 := XC.out _ hb6; have hsz6 := hb6.size; clear hown6 hgrow hat hlt6 x1 r1 r2 hbx)
      | (refine wpList_append_lies _ (by rfl) (.tmp 104) (.tmp 110) 27 (by rfl) we.heap.size 3 i0 _ 1 8 Tryd.underlying27 hi hz0 hz1 hz2 rfl (by omega) _ _ _ (by rfl) (World.ownsRow.alloc r2' _) ⟨w6.heap.size, 0, none⟩ 1 1 [.int .i64 (y.tmod 4000)] (by rfl) (by rfl) (World.news_of_block (heap_alloc_new w6 _)) (by simp [Value.oneCell']) (by omega) (by unfold maxLen; omega) (by omega) (by simp; omega) (w6.heap.size + 1) (by simp) ?_; intro g2 cap2 w7 hown7 hgrow7 hat7 hlt7; obtain ⟨q1', q2', hne', hb7⟩ := K2'.out _ _ _ _ _ _ q1 r2' hne hb6 hown7 hgrow7 hat7; clear hown7 hgrow7 hat7 hlt7 q1 r2' hne hb6 x6))
    go_roundg (k + 1 - (j + 1))
    case measure => have := HM.out; omega
    case rel => exact ⟨j + 1, cap1, cap2, some ⟨g1, 0, none⟩, some ⟨g2, 0, none⟩, by omega, rfl, by go_num, rfl, rfl, q1', q2', Lib.hid fun g h1 h2 => hne' (by injection h1 with h1; injection h2 with h2; exact h1.trans h2.symm), hb7⟩
  · have hjk : j = k := by omega
    have hltI : ¬ (k : Int) < k := by omega
    have is := O1'.intsV
    have il := O2'.intsV
    have q1 := i1.below hbx
    rw [hjk] at is il
    have hbr' := below_trans' hbr hbr.size hbx
    rw [hjk]
    clear O1' O2' hap HM hlt hj hjk hbx i1 i2 hbr HX1 BG hkb hk60 hn60
    have hbr := hbr'
    clear hbr'
    rcases Decidable.em (a2 = 0) with ha | ha

    · clear HXY
      go_wp2_with fail
      refine (GK.out _).mono ?_
      rintro e w5 ⟨rfl, hbq⟩
      replace q1 := q1.below hbq
      replace is := is.below hbq
      replace il := il.below hbq
      replace hbr := below_trans' hbr hbr.size hbq
      clear hbq
      go_wp2_with fail
      refine (D1.out _ _ _ q1 is).mono ?_
      rintro e w6 ⟨rfl, hbq⟩
      have hst := below_trans' hbq hbq.size ((Below.refl w6.heap.size w6).alloc (Nat.le_refl _) (.cells #[.int .i64 k, .string X1, .string X2, .string X3, .string X4] 48))
      have t6 := heap_alloc_new w6 (.cells #[.int .i64 k, .string X1, .string X2, .string X3, .string X4] 48)
      replace q1 := q1.below hst
      replace is := is.below hst
      replace il := il.below hst
      replace hbr := below_trans' hbr hbr.size hst
      clear hst hbq
      go_wp2_with fail
      generalize w6.alloc (.cells #[.int .i64 k, .string X1, .string X2, .string X3, .string X4] 48) = v6 at *
      generalize w6.heap.size = N6 at *
      refine (GO.out _).mono ?_
      rintro e w7 ⟨rfl, hbq⟩
      replace q1 := q1.below hbq
      replace is := is.below hbq
      replace il := il.below hbq
      replace t6 := blk_below hbq t6
      replace hbr := below_trans' hbr hbr.size hbq
      clear hbq
      go_wp2_with fail
      refine (D2.out _ _ _ q1 il).mono ?_
      rintro e w8 ⟨rfl, hbq⟩
      have hst := below_trans' hbq hbq.size ((Below.refl w8.heap.size w8).alloc (Nat.le_refl _) (.cells #[.int .i64 k, .string Y1, .string Y2, .string Y3, .string Y4] 48))
      have t8 := heap_alloc_new w8 (.cells #[.int .i64 k, .string Y1, .string Y2, .string Y3, .string Y4] 48)
      replace is := is.below hst
      replace il := il.below hst
      replace t6 := blk_below hst t6
      replace hbr := below_trans' hbr hbr.size hst
      clear hst hbq
      clear q1
      go_wp2_with fail
      generalize w8.alloc (.cells #[.int .i64 k, .string Y1, .string Y2, .string Y3, .string Y4] 48) = v8 at *
      generalize w8.heap.size = N8 at *
      refine (GO.out _).mono ?_
      rintro e w9 ⟨rfl, hbq⟩
      replace is := is.below hbq
      replace il := il.below hbq
      replace t6 := blk_below hbq t6
      replace t8 := blk_below hbq t8
      replace hbr := below_trans' hbr hbr.size hbq
      clear hbq
      go_wp2_with fail
      refine (D3.out _ _ _ _ _ is il).mono ?_
      rintro e w10 ⟨rfl, hbq⟩
      have hst := below_trans' hbq hbq.size ((Below.refl w10.heap.size w10).alloc (Nat.le_refl _) (.cells #[.int .i64 k, .string Z1, .string Z2, .string Z3, .string Z4] 48))
      have t10 := heap_alloc_new w10 (.cells #[.int .i64 k, .string Z1, .string Z2, .string Z3, .string Z4] 48)
      replace il := il.below hst
      replace t6 := blk_below hst t6
      replace t8 := blk_below hst t8
      replace hbr := below_trans' hbr hbr.size hst
      clear hst hbq
      clear is
      have m6 := cells5 t6
      have m8 := cells5 t8
      go_wp2_with fail
      generalize w10.alloc (.cells #[.int .i64 k, .string Z1, .string Z2, .string Z3, .string Z4] 48) = v10 at *
      generalize w10.heap.size = N10 at *
      clear m6 m8
      refine (D4.out _ _ _ il).mono ?_
      rintro e w11 ⟨rfl, hbq⟩
      have hst := below_trans' hbq hbq.size ((Below.refl w11.heap.size w11).alloc (Nat.le_refl _) (.cells #[.string S1, .string S2] 23))
      have t11 := heap_alloc_new w11 (.cells #[.string S1, .string S2] 23)
      replace t10 := blk_below hst t10
      replace hbr := below_trans' hbr hbr.size hst
      clear hst hbq il t6 t8
      go_wp2_with fail
      generalize w11.alloc (.cells #[.string S1, .string S2] 23) = v11 at *
      generalize w11.heap.size = N11 at *
      have hbd : Below v11.heap.size v11 v11.drew := (Below.refl _ _).drew
      rcases HSZ.out with hz | ⟨hz, rfl, rfl, rfl⟩
      · subst hz
        have m11 := cells2 t11
        have hbe := below_trans' hbr hbr.size hbd
        clear t10 t11 hbd
        go_quiet (fail)
        go_wp2_with fail
        go_ret
        exact ⟨rfl, below_drewN hbr _⟩
      · have hzB : (S1.toList == [48]) = false := by rw [beq_eq_false_iff_ne]; exact hz
        have HS : Hid (∀ w', Below v11.heap.size v11 w' → (w'.cell? ⟨N11, 0, none⟩ = some (.string S1) ∧ w'.cell? ⟨N11, 1, none⟩ = some (.string S2)) ∧ (w'.cell? ⟨N10, 1, none⟩ = some (.string Z1) ∧ w'.cell? ⟨N10, 2, none⟩ = some (.string Z2)) ∧ w'.cell? ⟨N10, 3, none⟩ = some (.string ⟨#[48]⟩)) := Lib.hid fun w' h => ⟨cells2 (blk_below h t11), ⟨(cells5 (blk_below h t10)).2.1, (cells5 (blk_below h t10)).2.2.1⟩, (cells5 (blk_below h t10)).2.2.2.1⟩
        have s0 := HS.out _ hbd
        have hwr : IntKind.i64.wrap a3 = a3 := IntWalk.i64_in _ (by omega)
        clear t10 t11 hz
        go_region_held3 (fun w' => (w'.cell? ⟨N11, 0, none⟩ = some (.string S1) ∧ w'.cell? ⟨N11, 1, none⟩ = some (.string S2)) ∧ (w'.cell? ⟨N10, 1, none⟩ = some (.string Z1) ∧ w'.cell? ⟨N10, 2, none⟩ = some (.string Z2)) ∧ w'.cell? ⟨N10, 3, none⟩ = some (.string ⟨#[48]⟩))
          (first | with_reducible exact s0 | with_reducible exact s1)
          (first | (go_at_call 37; (with_reducible refine (GK.out _).mono ?_); rintro e x1 ⟨rfl, hx1⟩; have hX1 := below_trans' hbd hbd.size hx1; have s1 := HS.out _ hX1))
        all_goals
          have hbe := below_trans' hbr hbr.size hX1
          clear s0 s1
          go_wp2_with fail
          go_ret
          exact ⟨rfl, hbe⟩
    · obtain ⟨rfl, rfl, rfl, rfl⟩ := HXY.out ha
      have ha' : (a2 != 0) = true := by simpa using ha
      clear HXY
      have HA := Lib.hid ha
      clear ha
      go_wp2_with fail
      refine (GK.out _).mono ?_
      rintro e w5 ⟨rfl, hbq⟩
      replace q1 := q1.below hbq
      replace is := is.below hbq
      replace il := il.below hbq
      replace hbr := below_trans' hbr hbr.size hbq
      clear hbq
      go_wp2_with fail
      refine (D1.out _ _ _ q1 is).mono ?_
      rintro e w6 ⟨rfl, hbq⟩
      have hst := below_trans' hbq hbq.size ((Below.refl w6.heap.size w6).alloc (Nat.le_refl _) (.cells #[.int .i64 k, .string X1, .string X2, .string X3, .string X4] 48))
      have t6 := heap_alloc_new w6 (.cells #[.int .i64 k, .string X1, .string X2, .string X3, .string X4] 48)
      replace q1 := q1.below hst
      replace is := is.below hst
      replace il := il.below hst
      replace hbr := below_trans' hbr hbr.size hst
      clear hst hbq
      go_wp2_with fail
      generalize w6.alloc (.cells #[.int .i64 k, .string X1, .string X2, .string X3, .string X4] 48) = v6 at *
      generalize w6.heap.size = N6 at *
      refine (GO.out _).mono ?_
      rintro e w7 ⟨rfl, hbq⟩
      replace q1 := q1.below hbq
      replace is := is.below hbq
      replace il := il.below hbq
      replace t6 := blk_below hbq t6
      replace hbr := below_trans' hbr hbr.size hbq
      clear hbq
      go_wp2_with fail
      refine (D2.out _ _ _ q1 il).mono ?_
      rintro e w8 ⟨rfl, hbq⟩
      have hst := below_trans' hbq hbq.size ((Below.refl w8.heap.size w8).alloc (Nat.le_refl _) (.cells #[.int .i64 k, .string X1, .string X2, .string X3, .string X4] 48))
      have t8 := heap_alloc_new w8 (.cells #[.int .i64 k, .string X1, .string X2, .string X3, .string X4] 48)
      replace is := is.below hst
      replace il := il.below hst
      replace t6 := blk_below hst t6
      replace hbr := below_trans' hbr hbr.size hst
      clear hst hbq
      clear q1
      go_wp2_with fail
      generalize w8.alloc (.cells #[.int .i64 k, .string X1, .string X2, .string X3, .string X4] 48) = v8 at *
      generalize w8.heap.size = N8 at *
      refine (GO.out _).mono ?_
      rintro e w9 ⟨rfl, hbq⟩
      replace is := is.below hbq
      replace il := il.below hbq
      replace t6 := blk_below hbq t6
      replace t8 := blk_below hbq t8
      replace hbr := below_trans' hbr hbr.size hbq
      clear hbq
      go_wp2_with fail
      refine (D3.out _ _ _ _ _ is il).mono ?_
      rintro e w10 ⟨rfl, hbq⟩
      have hst := below_trans' hbq hbq.size ((Below.refl w10.heap.size w10).alloc (Nat.le_refl _) (.cells #[.int .i64 k, .string Z1, .string Z2, .string Z3, .string Z4] 48))
      have t10 := heap_alloc_new w10 (.cells #[.int .i64 k, .string Z1, .string Z2, .string Z3, .string Z4] 48)
      replace il := il.below hst
      replace t6 := blk_below hst t6
      replace t8 := blk_below hst t8
      replace hbr := below_trans' hbr hbr.size hst
      clear hst hbq
      clear is
      have m6 := cells5 t6
      have m8 := cells5 t8
      go_wp2_with fail
      generalize w10.alloc (.cells #[.int .i64 k, .string Z1, .string Z2, .string Z3, .string Z4] 48) = v10 at *
      generalize w10.heap.size = N10 at *
      clear m6 m8
      refine (D4.out _ _ _ il).mono ?_
      rintro e w11 ⟨rfl, hbq⟩
      have hst := below_trans' hbq hbq.size ((Below.refl w11.heap.size w11).alloc (Nat.le_refl _) (.cells #[.string S1, .string S2] 23))
      have t11 := heap_alloc_new w11 (.cells #[.string S1, .string S2] 23)
      replace t10 := blk_below hst t10
      replace hbr := below_trans' hbr hbr.size hst
      clear hst hbq il t6 t8
      go_wp2_with fail
      generalize w11.alloc (.cells #[.string S1, .string S2] 23) = v11 at *
      generalize w11.heap.size = N11 at *
      have hbd : Below v11.heap.size v11 v11.drew := (Below.refl _ _).drew
      rcases HSZ.out with hz | ⟨hz, rfl, rfl, rfl⟩
      · subst hz
        have m11 := cells2 t11
        have hbe := below_trans' hbr hbr.size hbd
        clear t10 t11 hbd
        go_quiet (fail)
        go_wp2_with fail
        go_ret
        exact ⟨rfl, below_drewN hbr _⟩
      · have hzB : (S1.toList == [48]) = false := by rw [beq_eq_false_iff_ne]; exact hz
        have HS : Hid (∀ w', Below v11.heap.size v11 w' → (w'.cell? ⟨N11, 0, none⟩ = some (.string S1) ∧ w'.cell? ⟨N11, 1, none⟩ = some (.string S2)) ∧ (w'.cell? ⟨N10, 1, none⟩ = some (.string Z1) ∧ w'.cell? ⟨N10, 2, none⟩ = some (.string Z2)) ∧ w'.cell? ⟨N10, 3, none⟩ = some (.string ⟨#[48]⟩)) := Lib.hid fun w' h => ⟨cells2 (blk_below h t11), ⟨(cells5 (blk_below h t10)).2.1, (cells5 (blk_below h t10)).2.2.1⟩, (cells5 (blk_below h t10)).2.2.2.1⟩
        have s0 := HS.out _ hbd
        have hwr : IntKind.i64.wrap a3 = a3 := IntWalk.i64_in _ (by omega)
        clear t10 t11 hz
        go_region_held3 (fun w' => (w'.cell? ⟨N11, 0, none⟩ = some (.string S1) ∧ w'.cell? ⟨N11, 1, none⟩ = some (.string S2)) ∧ (w'.cell? ⟨N10, 1, none⟩ = some (.string Z1) ∧ w'.cell? ⟨N10, 2, none⟩ = some (.string Z2)) ∧ w'.cell? ⟨N10, 3, none⟩ = some (.string ⟨#[48]⟩))
          (first | with_reducible exact s0 | with_reducible exact s1)
          (first | (go_at_call 37; (with_reducible refine (GK.out _).mono ?_); rintro e x1 ⟨rfl, hx1⟩; have hX1 := below_trans' hbd hbd.size hx1; have s1 := HS.out _ hX1))
        all_goals
          have hbe := below_trans' hbr hbr.size hX1
          clear s0 s1
          go_wp2_with fail
          go_ret
          exact ⟨rfl, hbe⟩
end Go.Proofs.YtpligjkbnlfhgaaDoor
