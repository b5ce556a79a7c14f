/- Sums, differences, products, quotients of texts, the program's. -/
import Derived.Test.YtpligjkbnlfhgaaGreatDoorFrF
import Derived.Test.YtpligjkbnlfhgaaGreatDoorRf
namespace Go.Proofs.YtpligjkbnlfhgaaGreatDoor
open Go.RowKit

def ReadF (t : Txt) (w : World) (e : Ending) (w' : World) : Prop := ∃ A1 n1 c1 A2 n2 c2 s n d ok, e = .returned (.tuple #[.agg #[.bool s, .slice A1 n1 c1, .slice A2 n2 c2], .bool ok]) ∧ FrP w' (.agg #[.bool s, .slice A1 n1 c1, .slice A2 n2 c2]) s n d ∧
  (ok = true → d ≠ 0 ∧ Sm KD n ∧ Sm KD d ∧ rdR t = some (ratP s n d) ∧ (ratP s n d).num.natAbs = n ∧ (ratP s n d).den = d ∧ decide ((ratP s n d).num < 0) = s) ∧ (ok = false → rdR t = none) ∧ Below w.heap.size w w'
theorem FrP.shape {w : World} {f : Value} {s : Bool} {n d : Nat} (h : FrP w f s n d) : ∃ A1 n1 c1 A2 n2 c2, f = .agg #[.bool s, .slice A1 n1 c1, .slice A2 n2 c2] ∧ NatV 1000000000 w (.slice A1 n1 c1) n ∧ NatV 1000000000 w (.slice A2 n2 c2) d ∧ (n1 = 0 ↔ n = 0) ∧ n1 ≤ maxLen := by
  obtain ⟨vn, vd, hf, h1, h2⟩ := h
  obtain ⟨A1, n1, c1, rfl, hc, hm, hz⟩ := h1.shape (by omega)
  obtain ⟨A2, n2, c2, rfl, -⟩ := h2.shape (by omega)
  exact ⟨A1, n1, c1, A2, n2, c2, hf, h1, h2, hz, Nat.le_trans hc hm⟩
theorem read59r (N D : ByteArray) (w : World) (hN : N.size ≤ maxLen) (hD : D.size ≤ maxLen) :
    Calls Tryz.prog 102 #[.agg #[.string N, .string D]] w (ReadF (N.data.toList, D.data.toList) w) := by
  refine (read59 N D w hN hD).mono ?_
  rintro e w' ⟨f, rfl, ⟨s, n, d, hf, hv⟩, hb⟩
  have hf' := hf
  obtain ⟨A1, n1, c1, A2, n2, c2, rfl, -⟩ := hf.shape
  obtain ⟨r1, r2⟩ := rd_form (N := N.data.toList) (D := D.data.toList)
  refine ⟨A1, n1, c1, A2, n2, c2, s, n, d, _, rfl, hf', fun h => ?_, fun h => ?_, hb⟩
  · obtain ⟨rfl, rfl, rfl⟩ := hv h
    obtain ⟨h1, h2, _, h4, _⟩ := formB_iff.1 h
    have hd := (digB_iff.1 h2).1
    obtain ⟨q1, q2, q3, q4⟩ := r2 h
    exact ⟨fun h => h4 (hd.zero.1 h), sm_dec h1, sm_dec h2, q1, q2, q3, q4⟩
  · rw [h] at r1
    exact Option.not_isSome_iff_eq_none.1 (by rw [r1]; simp)

theorem FrP.but {w w' : World} {f : Value} {s : Bool} {n d : Nat} {G : Nat} {cs : Array Value} {t : TypeId} (h : FrP w f s n d) (hg : w.heap[G]? = some (.cells cs t (0, 0))) (hn : ∀ (k z : Nat), cs[k]? ≠ some (u32V z)) (hs : w.heap.size ≤ w'.heap.size)
    (hk : ∀ k, k < w.heap.size → k ≠ G → w'.heap[k]? = w.heap[k]?) : FrP w' f s n d := by
  obtain ⟨vn, vd, hf, h1, h2⟩ := h
  exact ⟨vn, vd, hf, h1.but hg hn hs hk, h2.but hg hn hs hk⟩
/-- What an inner operation computes. -/
def InnerOp (F : FuncId) (op : Rat → Rat → Option Rat) : Prop := ∀ (x y : Value) (s1 s2 : Bool) (n1 d1 n2 d2 : Nat) (w : World), Sm KD n1 → Sm KD d1 → Sm KD n2 → Sm KD d2 → d1 ≠ 0 → d2 ≠ 0 → FrP w x s1 n1 d1 → FrP w y s2 n2 d2 →
  Calls Tryz.prog F #[x, y] w fun e w' => ∃ f ok s n d, e = .returned (.tuple #[f, .bool ok]) ∧ FrP w' f s n d ∧ (ok = true → d ≠ 0 ∧ Sm (KD + KD + 2) n ∧ Sm (KD + KD + 2) d ∧ op (ratP s1 n1 d1) (ratP s2 n2 d2) = some (ratP s n d)) ∧ (ok = false → op (ratP s1 n1 d1) (ratP s2 n2 d2) = none) ∧ Below w.heap.size w w'

theorem inner74 : InnerOp 125 fun x y => some (x * y) := fun x y s1 s2 n1 d1 n2 d2 w a1 a2 a3 a4 h1 h2 hx hy => by
  refine (mul74 KD x y s1 s2 n1 d1 n2 d2 w (by decide) a1 a2 a3 a4 hx hy).mono ?_
  rintro e w' ⟨f, rfl, hf, hb⟩
  exact ⟨f, true, _, _, _, rfl, hf, fun _ => ⟨Nat.mul_ne_zero h1 h2, (a1.mul a3).mono (by omega), (a2.mul a4).mono (by omega), by show some (ratP s1 n1 d1 * ratP s2 n2 d2) = _; rw [ratP_mul]⟩, (fun h => by cases h), hb⟩
theorem sumS_size {K : Nat} {s1 s2 : Bool} {n1 d1 n2 d2 : Nat} (a1 : Sm K n1) (a2 : Sm K d1) (a3 : Sm K n2) (a4 : Sm K d2) : Sm (K + K + 2) (sumS s1 n1 d1 s2 n2 d2).2 := by
  have h := ((a1.mul a4).add (a3.mul a2)).mono (m := K + K + 2) (by omega)
  unfold sumS
  split
  · exact h
  · split
    · exact h.le (by omega)
    · exact h.le (by omega)
theorem inner76 : InnerOp 108 fun x y => some (x + y) := fun x y s1 s2 n1 d1 n2 d2 w a1 a2 a3 a4 h1 h2 hx hy => by
  refine (add76 KD x y s1 s2 n1 d1 n2 d2 w (by decide) (by decide) a1 a2 a3 a4 hx hy).mono ?_
  rintro e w' ⟨f, rfl, hf, hb⟩
  exact ⟨f, true, _, _, _, rfl, hf, fun _ => ⟨Nat.mul_ne_zero h1 h2, sumS_size a1 a2 a3 a4, (a2.mul a4).mono (by omega), by show some (ratP s1 n1 d1 + ratP s2 n2 d2) = _; rw [sum_val h1 h2]⟩, (fun h => by cases h), hb⟩
theorem inner79 : InnerOp 106 fun x y => some (x - y) := fun x y s1 s2 n1 d1 n2 d2 w a1 a2 a3 a4 h1 h2 hx hy => by
  refine (sub79 KD x y s1 s2 n1 d1 n2 d2 w (by decide) (by decide) a1 a2 a3 a4 hx hy).mono ?_
  rintro e w' ⟨f, rfl, hf, hb⟩
  exact ⟨f, true, _, _, _, rfl, hf, fun _ => ⟨Nat.mul_ne_zero h1 h2, sumS_size a1 a2 a3 a4, (a2.mul a4).mono (by omega), by show some (ratP s1 n1 d1 - ratP s2 n2 d2) = _; rw [sum_val h1 h2, ← ratP_neg, Rat.sub_eq_add_neg]⟩, (fun h => by cases h), hb⟩
theorem inner80 : InnerOp 126 fun x y => if y = 0 then none else some (x / y) := fun x y s1 s2 n1 d1 n2 d2 w a1 a2 a3 a4 h1 h2 hx hy => by
  refine (div80 KD x y s1 s2 n1 d1 n2 d2 w (by decide) a1 a2 a3 a4 hx hy).mono ?_
  rintro e w' ⟨f, rfl, hf, hb⟩
  refine ⟨f, _, _, _, _, rfl, hf, fun h => ?_, fun h => ?_, hb⟩
  · have h0 : n2 ≠ 0 := by simpa using h
    exact ⟨Nat.mul_ne_zero h1 h0, (a1.mul a4).mono (by omega), (a2.mul a3).mono (by omega), by show (if ratP s2 n2 d2 = 0 then none else some (ratP s1 n1 d1 / ratP s2 n2 d2)) = _; rw [if_neg (fun h => h0 ((ratP_zero h2).1 h)), ratP_div h0 h2]⟩
  · have h0 : n2 = 0 := by simpa using h
    exact if_pos ((ratP_zero h2).2 h0)

set_option maxRecDepth 100000 in
set_option maxHeartbeats 4000000 in
theorem with73_74 (op : Rat → Rat → Option Rat) (hF : InnerOp 125 op) (N1 D1 N2 D2 : ByteArray) (w : World) (hN1 : N1.size ≤ maxLen) (hD1 : D1.size ≤ maxLen) (hN2 : N2.size ≤ maxLen) (hD2 : D2.size ≤ maxLen) :
    Calls Tryz.prog 105 #[.agg #[.string N1, .string D1], .agg #[.string N2, .string D2], .func (Fn.func 125) #[] #[]] w fun e w' => e = .returned (txV (op2 op (N1.data.toList, D1.data.toList) (N2.data.toList, D2.data.toList))) ∧ Below w.heap.size w w' := by
  obtain ⟨R, hR⟩ : ∃ R, op2 op (N1.data.toList, D1.data.toList) (N2.data.toList, D2.data.toList) = R := ⟨_, rfl⟩
  rw [hR]
  have HR := Lib.hid hR
  obtain ⟨hbW, g0, g1, g2⟩ := allocs3 w #[.string N1, .string D1] #[.string N2, .string D2] #[.string ⟨#[]⟩, .string ⟨#[]⟩] 26 26 26
  have k0 := cells2 g0
  clear hR
  go_enter Tryz.func105, Tryz.ntmps105
  go_wp2_with fail
  generalize ((w.alloc (.cells #[.string N1, .string D1] 26)).alloc (.cells #[.string N2, .string D2] 26)).alloc (.cells #[.string ⟨#[]⟩, .string ⟨#[]⟩] 26) = W at *
  have hW2 : w.heap.size + 1 + 1 < W.heap.size := lt_of_blk g2
  refine (read59r N1 D1 W hN1 hD1).mono ?_
  rintro e w1 ⟨A1, l1, c1, A2, l2, c2, s1, n1, d1, o1, rfl, hf1, hv1, hx1, hb1⟩
  have hba : Below w1.heap.size w1 (w1.alloc (.cells #[.bool s1, .slice A1 l1 c1, .slice A2 l2 c2] 116)) := (Below.refl _ _).alloc (Nat.le_refl _) _
  have h5 := heap_alloc_new w1 (.cells #[.bool s1, .slice A1 l1 c1, .slice A2 l2 c2] 116)
  have hB1 := below_trans' hb1 hb1.size hba
  have k1 := cells2 (blk_below hB1 g1)
  have hf1' := hf1.below hba
  have HV1 := Lib.hid hv1
  have HX1 := Lib.hid hx1
  clear k0 hv1 hx1 hf1
  go_wp2_with fail
  refine (read59r N2 D2 _ hN2 hD2).mono ?_
  rintro e w2 ⟨A3, l3, c3, A4, l4, c4, s2, n2, d2, o2, rfl, hf2, hv2, hx2, hb2⟩
  have h5' := blk_below hb2 h5
  have hba2 : Below w2.heap.size w2 (w2.alloc (.cells #[.bool s2, .slice A3 l3 c3, .slice A4 l4 c4] 116)) := (Below.refl _ _).alloc (Nat.le_refl _) _
  have h6 := heap_alloc_new w2 (.cells #[.bool s2, .slice A3 l3 c3, .slice A4 l4 c4] 116)
  have q0 := cells3 (blk_below hba2 h5')
  have q1 := cells3 h6
  have hB2 := below_trans' (below_trans' hB1 hB1.size hb2) (below_trans' hB1 hB1.size hb2).size hba2
  have fx := (hf1'.below hb2).below hba2
  have fy := hf2.below hba2
  have G2 := blk_below hB2 g2
  have z2 := cells2 G2
  have y2 := free_of_block G2
  have HV2 := Lib.hid hv2
  have HX2 := Lib.hid hx2
  clear k1 hv2 hx2 hf1' hf2 h5 h5' h6
  by_cases ho : o1 = true ∧ o2 = true
  · obtain ⟨rfl, rfl⟩ := ho
    obtain ⟨e1, e2, e3, e4, -⟩ := HV1.out rfl
    obtain ⟨e5, e6, e7, e8, -⟩ := HV2.out rfl
    have hRv : (op (ratP s1 n1 d1) (ratP s2 n2 d2)).bind wrR = R := by rw [← HR.out, op2_some e4 e8]
    have HRV := Lib.hid hRv
    clear hRv e4 e8
    go_wp2_with fail
    refine (hF _ _ s1 s2 n1 d1 n2 d2 _ e2 e3 e6 e7 e1 e5 fx fy).mono ?_
    rintro e w3 ⟨f, ok, s, n, d, rfl, hf, hok, hno, hb3⟩
    obtain ⟨A5, l5, c5, A6, l6, c6, rfl, -⟩ := hf.shape
    have hba3 : Below w3.heap.size w3 (w3.alloc (.cells #[.bool s, .slice A5 l5 c5, .slice A6 l6 c6] 116)) := (Below.refl _ _).alloc (Nat.le_refl _) _
    have h7 := heap_alloc_new w3 (.cells #[.bool s, .slice A5 l5 c5, .slice A6 l6 c6] 116)
    have hB3 := below_trans' (below_trans' hB2 hB2.size hb3) (below_trans' hB2 hB2.size hb3).size hba3
    have hf3 := hf.below hba3
    have q7 := cells3 h7
    have G3 := blk_below hB3 g2
    have z3 := cells2 G3
    have y3 := free_of_block G3
    have HOK := Lib.hid hok
    have HNO := Lib.hid hno
    clear hok hno hf fx fy q0 q1 z2 y2 G2
    cases ok with
    | false =>
      have hR0 : R = none := by rw [← HRV.out, HNO.out rfl]; rfl
      subst hR0
      obtain ⟨y0, y1⟩ := ret2 (A := ⟨#[]⟩) (B := ⟨#[]⟩) G3
      have hbe := below_sets2 (below_trans' hbW hbW.size hB3) (show w.heap.size ≤ w.heap.size + 1 + 1 by omega) (.string ⟨#[]⟩) (.string ⟨#[]⟩)
      go_wp2_with fail
      generalize ((w3.alloc (.cells #[.bool s, .slice A5 l5 c5, .slice A6 l6 c6] 116)).setCell ⟨w.heap.size + 1 + 1, 0, none⟩ (.string ⟨#[]⟩)).setCell ⟨w.heap.size + 1 + 1, 1, none⟩ (.string ⟨#[]⟩) = W3 at y0 y1 hbe ⊢
      exact bodyPost_ret (v := .tuple #[.agg #[.string ⟨#[]⟩, .string ⟨#[]⟩], .bool false]) (by simp [results, Tryz.results105, go_sem, y0, y1]) rfl ⟨rfl, hbe⟩
    | true =>
      obtain ⟨u1, u2, u3, u4⟩ := HOK.out rfl
      have hRw : wrR (ratP s n d) = R := by rw [← HRV.out, u4, Option.bind_some]
      have HRW := Lib.hid hRw
      clear u4 hRw
      go_wp2_with fail
      refine (write70 (KD + KD + 2) _ s n d _ (by decide) (by decide) u2 u3 u1 hf3).mono ?_
      rintro e w4 ⟨rfl, hb4⟩
      rw [HRW.out]
      have hB4 := below_trans' hB3 hB3.size hb4
      have G4 := blk_below hB4 g2
      have k3 := cells2 G4
      have f3 := free_of_block G4
      clear hb4 hf3 q7 z3 y3 G3
      obtain ⟨A, B, ok, hAB, -⟩ : ∃ A B ok, txV R = .tuple #[.agg #[.string A, .string B], .bool ok] ∧ True := by
        cases R with
        | none => exact ⟨_, _, _, rfl, trivial⟩
        | some r => exact ⟨_, _, _, rfl, trivial⟩
      rw [hAB]
      go_wp2_with fail
      obtain ⟨y0, y1⟩ := ret2 (A := A) (B := B) G4
      have hbe := below_sets2 (below_trans' hbW hbW.size hB4) (show w.heap.size ≤ w.heap.size + 1 + 1 by omega) (.string A) (.string B)
      generalize ((w4.setCell ⟨w.heap.size + 1 + 1, 0, none⟩ (.string A)).setCell ⟨w.heap.size + 1 + 1, 1, none⟩ (.string B)) = W3 at y0 y1 hbe ⊢
      exact bodyPost_ret (v := .tuple #[.agg #[.string A, .string B], .bool ok]) (by simp [results, Tryz.results105, go_sem, y0, y1]) rfl ⟨by rw [hAB], hbe⟩
  · have hR0 : R = none := by
      rw [← HR.out]
      refine op2_none ?_
      cases o1 with
      | false => rw [HX1.out rfl]; rfl
      | true =>
        cases o2 with
        | false => rw [HX2.out rfl]; simp
        | true => exact absurd ⟨rfl, rfl⟩ ho
    subst hR0
    obtain ⟨y0, y1⟩ := ret2 (A := ⟨#[]⟩) (B := ⟨#[]⟩) G2
    have hbe := below_sets2 (below_trans' hbW hbW.size hB2) (show w.heap.size ≤ w.heap.size + 1 + 1 by omega) (.string ⟨#[]⟩) (.string ⟨#[]⟩)
    generalize hw9 : ((w2.alloc (.cells #[.bool s2, .slice A3 l3 c3, .slice A4 l4 c4] 116)).setCell ⟨w.heap.size + 1 + 1, 0, none⟩ (.string ⟨#[]⟩)).setCell ⟨w.heap.size + 1 + 1, 1, none⟩ (.string ⟨#[]⟩) = W3 at y0 y1 hbe
    have HW9 := Lib.hid hw9
    clear hw9 q0 q1
    cases o1 with
    | false =>
      go_wp2_with fail
      rw [HW9.out]
      exact bodyPost_ret (v := .tuple #[.agg #[.string ⟨#[]⟩, .string ⟨#[]⟩], .bool false]) (by simp [results, Tryz.results105, go_sem, y0, y1]) rfl ⟨rfl, hbe⟩
    | true =>
      cases o2 with
      | true => exact absurd ⟨rfl, rfl⟩ ho
      | false =>
        clear ho
        go_wp2_with fail
        rw [HW9.out]
        exact bodyPost_ret (v := .tuple #[.agg #[.string ⟨#[]⟩, .string ⟨#[]⟩], .bool false]) (by simp [results, Tryz.results105, go_sem, y0, y1]) rfl ⟨rfl, hbe⟩

set_option maxRecDepth 100000 in
set_option maxHeartbeats 4000000 in
theorem with73_76 (op : Rat → Rat → Option Rat) (hF : InnerOp 108 op) (N1 D1 N2 D2 : ByteArray) (w : World) (hN1 : N1.size ≤ maxLen) (hD1 : D1.size ≤ maxLen) (hN2 : N2.size ≤ maxLen) (hD2 : D2.size ≤ maxLen) :
    Calls Tryz.prog 105 #[.agg #[.string N1, .string D1], .agg #[.string N2, .string D2], .func (Fn.func 108) #[] #[]] w fun e w' => e = .returned (txV (op2 op (N1.data.toList, D1.data.toList) (N2.data.toList, D2.data.toList))) ∧ Below w.heap.size w w' := by
  obtain ⟨R, hR⟩ : ∃ R, op2 op (N1.data.toList, D1.data.toList) (N2.data.toList, D2.data.toList) = R := ⟨_, rfl⟩
  rw [hR]
  have HR := Lib.hid hR
  obtain ⟨hbW, g0, g1, g2⟩ := allocs3 w #[.string N1, .string D1] #[.string N2, .string D2] #[.string ⟨#[]⟩, .string ⟨#[]⟩] 26 26 26
  have k0 := cells2 g0
  clear hR
  go_enter Tryz.func105, Tryz.ntmps105
  go_wp2_with fail
  generalize ((w.alloc (.cells #[.string N1, .string D1] 26)).alloc (.cells #[.string N2, .string D2] 26)).alloc (.cells #[.string ⟨#[]⟩, .string ⟨#[]⟩] 26) = W at *
  have hW2 : w.heap.size + 1 + 1 < W.heap.size := lt_of_blk g2
  refine (read59r N1 D1 W hN1 hD1).mono ?_
  rintro e w1 ⟨A1, l1, c1, A2, l2, c2, s1, n1, d1, o1, rfl, hf1, hv1, hx1, hb1⟩
  have hba : Below w1.heap.size w1 (w1.alloc (.cells #[.bool s1, .slice A1 l1 c1, .slice A2 l2 c2] 116)) := (Below.refl _ _).alloc (Nat.le_refl _) _
  have h5 := heap_alloc_new w1 (.cells #[.bool s1, .slice A1 l1 c1, .slice A2 l2 c2] 116)
  have hB1 := below_trans' hb1 hb1.size hba
  have k1 := cells2 (blk_below hB1 g1)
  have hf1' := hf1.below hba
  have HV1 := Lib.hid hv1
  have HX1 := Lib.hid hx1
  clear k0 hv1 hx1 hf1
  go_wp2_with fail
  refine (read59r N2 D2 _ hN2 hD2).mono ?_
  rintro e w2 ⟨A3, l3, c3, A4, l4, c4, s2, n2, d2, o2, rfl, hf2, hv2, hx2, hb2⟩
  have h5' := blk_below hb2 h5
  have hba2 : Below w2.heap.size w2 (w2.alloc (.cells #[.bool s2, .slice A3 l3 c3, .slice A4 l4 c4] 116)) := (Below.refl _ _).alloc (Nat.le_refl _) _
  have h6 := heap_alloc_new w2 (.cells #[.bool s2, .slice A3 l3 c3, .slice A4 l4 c4] 116)
  have q0 := cells3 (blk_below hba2 h5')
  have q1 := cells3 h6
  have hB2 := below_trans' (below_trans' hB1 hB1.size hb2) (below_trans' hB1 hB1.size hb2).size hba2
  have fx := (hf1'.below hb2).below hba2
  have fy := hf2.below hba2
  have G2 := blk_below hB2 g2
  have z2 := cells2 G2
  have y2 := free_of_block G2
  have HV2 := Lib.hid hv2
  have HX2 := Lib.hid hx2
  clear k1 hv2 hx2 hf1' hf2 h5 h5' h6
  by_cases ho : o1 = true ∧ o2 = true
  · obtain ⟨rfl, rfl⟩ := ho
    obtain ⟨e1, e2, e3, e4, -⟩ := HV1.out rfl
    obtain ⟨e5, e6, e7, e8, -⟩ := HV2.out rfl
    have hRv : (op (ratP s1 n1 d1) (ratP s2 n2 d2)).bind wrR = R := by rw [← HR.out, op2_some e4 e8]
    have HRV := Lib.hid hRv
    clear hRv e4 e8
    go_wp2_with fail
    refine (hF _ _ s1 s2 n1 d1 n2 d2 _ e2 e3 e6 e7 e1 e5 fx fy).mono ?_
    rintro e w3 ⟨f, ok, s, n, d, rfl, hf, hok, hno, hb3⟩
    obtain ⟨A5, l5, c5, A6, l6, c6, rfl, -⟩ := hf.shape
    have hba3 : Below w3.heap.size w3 (w3.alloc (.cells #[.bool s, .slice A5 l5 c5, .slice A6 l6 c6] 116)) := (Below.refl _ _).alloc (Nat.le_refl _) _
    have h7 := heap_alloc_new w3 (.cells #[.bool s, .slice A5 l5 c5, .slice A6 l6 c6] 116)
    have hB3 := below_trans' (below_trans' hB2 hB2.size hb3) (below_trans' hB2 hB2.size hb3).size hba3
    have hf3 := hf.below hba3
    have q7 := cells3 h7
    have G3 := blk_below hB3 g2
    have z3 := cells2 G3
    have y3 := free_of_block G3
    have HOK := Lib.hid hok
    have HNO := Lib.hid hno
    clear hok hno hf fx fy q0 q1 z2 y2 G2
    cases ok with
    | false =>
      have hR0 : R = none := by rw [← HRV.out, HNO.out rfl]; rfl
      subst hR0
      obtain ⟨y0, y1⟩ := ret2 (A := ⟨#[]⟩) (B := ⟨#[]⟩) G3
      have hbe := below_sets2 (below_trans' hbW hbW.size hB3) (show w.heap.size ≤ w.heap.size + 1 + 1 by omega) (.string ⟨#[]⟩) (.string ⟨#[]⟩)
      go_wp2_with fail
      generalize ((w3.alloc (.cells #[.bool s, .slice A5 l5 c5, .slice A6 l6 c6] 116)).setCell ⟨w.heap.size + 1 + 1, 0, none⟩ (.string ⟨#[]⟩)).setCell ⟨w.heap.size + 1 + 1, 1, none⟩ (.string ⟨#[]⟩) = W3 at y0 y1 hbe ⊢
      exact bodyPost_ret (v := .tuple #[.agg #[.string ⟨#[]⟩, .string ⟨#[]⟩], .bool false]) (by simp [results, Tryz.results105, go_sem, y0, y1]) rfl ⟨rfl, hbe⟩
    | true =>
      obtain ⟨u1, u2, u3, u4⟩ := HOK.out rfl
      have hRw : wrR (ratP s n d) = R := by rw [← HRV.out, u4, Option.bind_some]
      have HRW := Lib.hid hRw
      clear u4 hRw
      go_wp2_with fail
      refine (write70 (KD + KD + 2) _ s n d _ (by decide) (by decide) u2 u3 u1 hf3).mono ?_
      rintro e w4 ⟨rfl, hb4⟩
      rw [HRW.out]
      have hB4 := below_trans' hB3 hB3.size hb4
      have G4 := blk_below hB4 g2
      have k3 := cells2 G4
      have f3 := free_of_block G4
      clear hb4 hf3 q7 z3 y3 G3
      obtain ⟨A, B, ok, hAB, -⟩ : ∃ A B ok, txV R = .tuple #[.agg #[.string A, .string B], .bool ok] ∧ True := by
        cases R with
        | none => exact ⟨_, _, _, rfl, trivial⟩
        | some r => exact ⟨_, _, _, rfl, trivial⟩
      rw [hAB]
      go_wp2_with fail
      obtain ⟨y0, y1⟩ := ret2 (A := A) (B := B) G4
      have hbe := below_sets2 (below_trans' hbW hbW.size hB4) (show w.heap.size ≤ w.heap.size + 1 + 1 by omega) (.string A) (.string B)
      generalize ((w4.setCell ⟨w.heap.size + 1 + 1, 0, none⟩ (.string A)).setCell ⟨w.heap.size + 1 + 1, 1, none⟩ (.string B)) = W3 at y0 y1 hbe ⊢
      exact bodyPost_ret (v := .tuple #[.agg #[.string A, .string B], .bool ok]) (by simp [results, Tryz.results105, go_sem, y0, y1]) rfl ⟨by rw [hAB], hbe⟩
  · have hR0 : R = none := by
      rw [← HR.out]
      refine op2_none ?_
      cases o1 with
      | false => rw [HX1.out rfl]; rfl
      | true =>
        cases o2 with
        | false => rw [HX2.out rfl]; simp
        | true => exact absurd ⟨rfl, rfl⟩ ho
    subst hR0
    obtain ⟨y0, y1⟩ := ret2 (A := ⟨#[]⟩) (B := ⟨#[]⟩) G2
    have hbe := below_sets2 (below_trans' hbW hbW.size hB2) (show w.heap.size ≤ w.heap.size + 1 + 1 by omega) (.string ⟨#[]⟩) (.string ⟨#[]⟩)
    generalize hw9 : ((w2.alloc (.cells #[.bool s2, .slice A3 l3 c3, .slice A4 l4 c4] 116)).setCell ⟨w.heap.size + 1 + 1, 0, none⟩ (.string ⟨#[]⟩)).setCell ⟨w.heap.size + 1 + 1, 1, none⟩ (.string ⟨#[]⟩) = W3 at y0 y1 hbe
    have HW9 := Lib.hid hw9
    clear hw9 q0 q1
    cases o1 with
    | false =>
      go_wp2_with fail
      rw [HW9.out]
      exact bodyPost_ret (v := .tuple #[.agg #[.string ⟨#[]⟩, .string ⟨#[]⟩], .bool false]) (by simp [results, Tryz.results105, go_sem, y0, y1]) rfl ⟨rfl, hbe⟩
    | true =>
      cases o2 with
      | true => exact absurd ⟨rfl, rfl⟩ ho
      | false =>
        clear ho
        go_wp2_with fail
        rw [HW9.out]
        exact bodyPost_ret (v := .tuple #[.agg #[.string ⟨#[]⟩, .string ⟨#[]⟩], .bool false]) (by simp [results, Tryz.results105, go_sem, y0, y1]) rfl ⟨rfl, hbe⟩

set_option maxRecDepth 100000 in
set_option maxHeartbeats 4000000 in
theorem with73_79 (op : Rat → Rat → Option Rat) (hF : InnerOp 106 op) (N1 D1 N2 D2 : ByteArray) (w : World) (hN1 : N1.size ≤ maxLen) (hD1 : D1.size ≤ maxLen) (hN2 : N2.size ≤ maxLen) (hD2 : D2.size ≤ maxLen) :
    Calls Tryz.prog 105 #[.agg #[.string N1, .string D1], .agg #[.string N2, .string D2], .func (Fn.func 106) #[] #[]] w fun e w' => e = .returned (txV (op2 op (N1.data.toList, D1.data.toList) (N2.data.toList, D2.data.toList))) ∧ Below w.heap.size w w' := by
  obtain ⟨R, hR⟩ : ∃ R, op2 op (N1.data.toList, D1.data.toList) (N2.data.toList, D2.data.toList) = R := ⟨_, rfl⟩
  rw [hR]
  have HR := Lib.hid hR
  obtain ⟨hbW, g0, g1, g2⟩ := allocs3 w #[.string N1, .string D1] #[.string N2, .string D2] #[.string ⟨#[]⟩, .string ⟨#[]⟩] 26 26 26
  have k0 := cells2 g0
  clear hR
  go_enter Tryz.func105, Tryz.ntmps105
  go_wp2_with fail
  generalize ((w.alloc (.cells #[.string N1, .string D1] 26)).alloc (.cells #[.string N2, .string D2] 26)).alloc (.cells #[.string ⟨#[]⟩, .string ⟨#[]⟩] 26) = W at *
  have hW2 : w.heap.size + 1 + 1 < W.heap.size := lt_of_blk g2
  refine (read59r N1 D1 W hN1 hD1).mono ?_
  rintro e w1 ⟨A1, l1, c1, A2, l2, c2, s1, n1, d1, o1, rfl, hf1, hv1, hx1, hb1⟩
  have hba : Below w1.heap.size w1 (w1.alloc (.cells #[.bool s1, .slice A1 l1 c1, .slice A2 l2 c2] 116)) := (Below.refl _ _).alloc (Nat.le_refl _) _
  have h5 := heap_alloc_new w1 (.cells #[.bool s1, .slice A1 l1 c1, .slice A2 l2 c2] 116)
  have hB1 := below_trans' hb1 hb1.size hba
  have k1 := cells2 (blk_below hB1 g1)
  have hf1' := hf1.below hba
  have HV1 := Lib.hid hv1
  have HX1 := Lib.hid hx1
  clear k0 hv1 hx1 hf1
  go_wp2_with fail
  refine (read59r N2 D2 _ hN2 hD2).mono ?_
  rintro e w2 ⟨A3, l3, c3, A4, l4, c4, s2, n2, d2, o2, rfl, hf2, hv2, hx2, hb2⟩
  have h5' := blk_below hb2 h5
  have hba2 : Below w2.heap.size w2 (w2.alloc (.cells #[.bool s2, .slice A3 l3 c3, .slice A4 l4 c4] 116)) := (Below.refl _ _).alloc (Nat.le_refl _) _
  have h6 := heap_alloc_new w2 (.cells #[.bool s2, .slice A3 l3 c3, .slice A4 l4 c4] 116)
  have q0 := cells3 (blk_below hba2 h5')
  have q1 := cells3 h6
  have hB2 := below_trans' (below_trans' hB1 hB1.size hb2) (below_trans' hB1 hB1.size hb2).size hba2
  have fx := (hf1'.below hb2).below hba2
  have fy := hf2.below hba2
  have G2 := blk_below hB2 g2
  have z2 := cells2 G2
  have y2 := free_of_block G2
  have HV2 := Lib.hid hv2
  have HX2 := Lib.hid hx2
  clear k1 hv2 hx2 hf1' hf2 h5 h5' h6
  by_cases ho : o1 = true ∧ o2 = true
  · obtain ⟨rfl, rfl⟩ := ho
    obtain ⟨e1, e2, e3, e4, -⟩ := HV1.out rfl
    obtain ⟨e5, e6, e7, e8, -⟩ := HV2.out rfl
    have hRv : (op (ratP s1 n1 d1) (ratP s2 n2 d2)).bind wrR = R := by rw [← HR.out, op2_some e4 e8]
    have HRV := Lib.hid hRv
    clear hRv e4 e8
    go_wp2_with fail
    refine (hF _ _ s1 s2 n1 d1 n2 d2 _ e2 e3 e6 e7 e1 e5 fx fy).mono ?_
    rintro e w3 ⟨f, ok, s, n, d, rfl, hf, hok, hno, hb3⟩
    obtain ⟨A5, l5, c5, A6, l6, c6, rfl, -⟩ := hf.shape
    have hba3 : Below w3.heap.size w3 (w3.alloc (.cells #[.bool s, .slice A5 l5 c5, .slice A6 l6 c6] 116)) := (Below.refl _ _).alloc (Nat.le_refl _) _
    have h7 := heap_alloc_new w3 (.cells #[.bool s, .slice A5 l5 c5, .slice A6 l6 c6] 116)
    have hB3 := below_trans' (below_trans' hB2 hB2.size hb3) (below_trans' hB2 hB2.size hb3).size hba3
    have hf3 := hf.below hba3
    have q7 := cells3 h7
    have G3 := blk_below hB3 g2
    have z3 := cells2 G3
    have y3 := free_of_block G3
    have HOK := Lib.hid hok
    have HNO := Lib.hid hno
    clear hok hno hf fx fy q0 q1 z2 y2 G2
    cases ok with
    | false =>
      have hR0 : R = none := by rw [← HRV.out, HNO.out rfl]; rfl
      subst hR0
      obtain ⟨y0, y1⟩ := ret2 (A := ⟨#[]⟩) (B := ⟨#[]⟩) G3
      have hbe := below_sets2 (below_trans' hbW hbW.size hB3) (show w.heap.size ≤ w.heap.size + 1 + 1 by omega) (.string ⟨#[]⟩) (.string ⟨#[]⟩)
      go_wp2_with fail
      generalize ((w3.alloc (.cells #[.bool s, .slice A5 l5 c5, .slice A6 l6 c6] 116)).setCell ⟨w.heap.size + 1 + 1, 0, none⟩ (.string ⟨#[]⟩)).setCell ⟨w.heap.size + 1 + 1, 1, none⟩ (.string ⟨#[]⟩) = W3 at y0 y1 hbe ⊢
      exact bodyPost_ret (v := .tuple #[.agg #[.string ⟨#[]⟩, .string ⟨#[]⟩], .bool false]) (by simp [results, Tryz.results105, go_sem, y0, y1]) rfl ⟨rfl, hbe⟩
    | true =>
      obtain ⟨u1, u2, u3, u4⟩ := HOK.out rfl
      have hRw : wrR (ratP s n d) = R := by rw [← HRV.out, u4, Option.bind_some]
      have HRW := Lib.hid hRw
      clear u4 hRw
      go_wp2_with fail
      refine (write70 (KD + KD + 2) _ s n d _ (by decide) (by decide) u2 u3 u1 hf3).mono ?_
      rintro e w4 ⟨rfl, hb4⟩
      rw [HRW.out]
      have hB4 := below_trans' hB3 hB3.size hb4
      have G4 := blk_below hB4 g2
      have k3 := cells2 G4
      have f3 := free_of_block G4
      clear hb4 hf3 q7 z3 y3 G3
      obtain ⟨A, B, ok, hAB, -⟩ : ∃ A B ok, txV R = .tuple #[.agg #[.string A, .string B], .bool ok] ∧ True := by
        cases R with
        | none => exact ⟨_, _, _, rfl, trivial⟩
        | some r => exact ⟨_, _, _, rfl, trivial⟩
      rw [hAB]
      go_wp2_with fail
      obtain ⟨y0, y1⟩ := ret2 (A := A) (B := B) G4
      have hbe := below_sets2 (below_trans' hbW hbW.size hB4) (show w.heap.size ≤ w.heap.size + 1 + 1 by omega) (.string A) (.string B)
      generalize ((w4.setCell ⟨w.heap.size + 1 + 1, 0, none⟩ (.string A)).setCell ⟨w.heap.size + 1 + 1, 1, none⟩ (.string B)) = W3 at y0 y1 hbe ⊢
      exact bodyPost_ret (v := .tuple #[.agg #[.string A, .string B], .bool ok]) (by simp [results, Tryz.results105, go_sem, y0, y1]) rfl ⟨by rw [hAB], hbe⟩
  · have hR0 : R = none := by
      rw [← HR.out]
      refine op2_none ?_
      cases o1 with
      | false => rw [HX1.out rfl]; rfl
      | true =>
        cases o2 with
        | false => rw [HX2.out rfl]; simp
        | true => exact absurd ⟨rfl, rfl⟩ ho
    subst hR0
    obtain ⟨y0, y1⟩ := ret2 (A := ⟨#[]⟩) (B := ⟨#[]⟩) G2
    have hbe := below_sets2 (below_trans' hbW hbW.size hB2) (show w.heap.size ≤ w.heap.size + 1 + 1 by omega) (.string ⟨#[]⟩) (.string ⟨#[]⟩)
    generalize hw9 : ((w2.alloc (.cells #[.bool s2, .slice A3 l3 c3, .slice A4 l4 c4] 116)).setCell ⟨w.heap.size + 1 + 1, 0, none⟩ (.string ⟨#[]⟩)).setCell ⟨w.heap.size + 1 + 1, 1, none⟩ (.string ⟨#[]⟩) = W3 at y0 y1 hbe
    have HW9 := Lib.hid hw9
    clear hw9 q0 q1
    cases o1 with
    | false =>
      go_wp2_with fail
      rw [HW9.out]
      exact bodyPost_ret (v := .tuple #[.agg #[.string ⟨#[]⟩, .string ⟨#[]⟩], .bool false]) (by simp [results, Tryz.results105, go_sem, y0, y1]) rfl ⟨rfl, hbe⟩
    | true =>
      cases o2 with
      | true => exact absurd ⟨rfl, rfl⟩ ho
      | false =>
        clear ho
        go_wp2_with fail
        rw [HW9.out]
        exact bodyPost_ret (v := .tuple #[.agg #[.string ⟨#[]⟩, .string ⟨#[]⟩], .bool false]) (by simp [results, Tryz.results105, go_sem, y0, y1]) rfl ⟨rfl, hbe⟩

set_option maxRecDepth 100000 in
set_option maxHeartbeats 4000000 in
theorem with73_80 (op : Rat → Rat → Option Rat) (hF : InnerOp 126 op) (N1 D1 N2 D2 : ByteArray) (w : World) (hN1 : N1.size ≤ maxLen) (hD1 : D1.size ≤ maxLen) (hN2 : N2.size ≤ maxLen) (hD2 : D2.size ≤ maxLen) :
    Calls Tryz.prog 105 #[.agg #[.string N1, .string D1], .agg #[.string N2, .string D2], .func (Fn.func 126) #[] #[]] w fun e w' => e = .returned (txV (op2 op (N1.data.toList, D1.data.toList) (N2.data.toList, D2.data.toList))) ∧ Below w.heap.size w w' := by
  obtain ⟨R, hR⟩ : ∃ R, op2 op (N1.data.toList, D1.data.toList) (N2.data.toList, D2.data.toList) = R := ⟨_, rfl⟩
  rw [hR]
  have HR := Lib.hid hR
  obtain ⟨hbW, g0, g1, g2⟩ := allocs3 w #[.string N1, .string D1] #[.string N2, .string D2] #[.string ⟨#[]⟩, .string ⟨#[]⟩] 26 26 26
  have k0 := cells2 g0
  clear hR
  go_enter Tryz.func105, Tryz.ntmps105
  go_wp2_with fail
  generalize ((w.alloc (.cells #[.string N1, .string D1] 26)).alloc (.cells #[.string N2, .string D2] 26)).alloc (.cells #[.string ⟨#[]⟩, .string ⟨#[]⟩] 26) = W at *
  have hW2 : w.heap.size + 1 + 1 < W.heap.size := lt_of_blk g2
  refine (read59r N1 D1 W hN1 hD1).mono ?_
  rintro e w1 ⟨A1, l1, c1, A2, l2, c2, s1, n1, d1, o1, rfl, hf1, hv1, hx1, hb1⟩
  have hba : Below w1.heap.size w1 (w1.alloc (.cells #[.bool s1, .slice A1 l1 c1, .slice A2 l2 c2] 116)) := (Below.refl _ _).alloc (Nat.le_refl _) _
  have h5 := heap_alloc_new w1 (.cells #[.bool s1, .slice A1 l1 c1, .slice A2 l2 c2] 116)
  have hB1 := below_trans' hb1 hb1.size hba
  have k1 := cells2 (blk_below hB1 g1)
  have hf1' := hf1.below hba
  have HV1 := Lib.hid hv1
  have HX1 := Lib.hid hx1
  clear k0 hv1 hx1 hf1
  go_wp2_with fail
  refine (read59r N2 D2 _ hN2 hD2).mono ?_
  rintro e w2 ⟨A3, l3, c3, A4, l4, c4, s2, n2, d2, o2, rfl, hf2, hv2, hx2, hb2⟩
  have h5' := blk_below hb2 h5
  have hba2 : Below w2.heap.size w2 (w2.alloc (.cells #[.bool s2, .slice A3 l3 c3, .slice A4 l4 c4] 116)) := (Below.refl _ _).alloc (Nat.le_refl _) _
  have h6 := heap_alloc_new w2 (.cells #[.bool s2, .slice A3 l3 c3, .slice A4 l4 c4] 116)
  have q0 := cells3 (blk_below hba2 h5')
  have q1 := cells3 h6
  have hB2 := below_trans' (below_trans' hB1 hB1.size hb2) (below_trans' hB1 hB1.size hb2).size hba2
  have fx := (hf1'.below hb2).below hba2
  have fy := hf2.below hba2
  have G2 := blk_below hB2 g2
  have z2 := cells2 G2
  have y2 := free_of_block G2
  have HV2 := Lib.hid hv2
  have HX2 := Lib.hid hx2
  clear k1 hv2 hx2 hf1' hf2 h5 h5' h6
  by_cases ho : o1 = true ∧ o2 = true
  · obtain ⟨rfl, rfl⟩ := ho
    obtain ⟨e1, e2, e3, e4, -⟩ := HV1.out rfl
    obtain ⟨e5, e6, e7, e8, -⟩ := HV2.out rfl
    have hRv : (op (ratP s1 n1 d1) (ratP s2 n2 d2)).bind wrR = R := by rw [← HR.out, op2_some e4 e8]
    have HRV := Lib.hid hRv
    clear hRv e4 e8
    go_wp2_with fail
    refine (hF _ _ s1 s2 n1 d1 n2 d2 _ e2 e3 e6 e7 e1 e5 fx fy).mono ?_
    rintro e w3 ⟨f, ok, s, n, d, rfl, hf, hok, hno, hb3⟩
    obtain ⟨A5, l5, c5, A6, l6, c6, rfl, -⟩ := hf.shape
    have hba3 : Below w3.heap.size w3 (w3.alloc (.cells #[.bool s, .slice A5 l5 c5, .slice A6 l6 c6] 116)) := (Below.refl _ _).alloc (Nat.le_refl _) _
    have h7 := heap_alloc_new w3 (.cells #[.bool s, .slice A5 l5 c5, .slice A6 l6 c6] 116)
    have hB3 := below_trans' (below_trans' hB2 hB2.size hb3) (below_trans' hB2 hB2.size hb3).size hba3
    have hf3 := hf.below hba3
    have q7 := cells3 h7
    have G3 := blk_below hB3 g2
    have z3 := cells2 G3
    have y3 := free_of_block G3
    have HOK := Lib.hid hok
    have HNO := Lib.hid hno
    clear hok hno hf fx fy q0 q1 z2 y2 G2
    cases ok with
    | false =>
      have hR0 : R = none := by rw [← HRV.out, HNO.out rfl]; rfl
      subst hR0
      obtain ⟨y0, y1⟩ := ret2 (A := ⟨#[]⟩) (B := ⟨#[]⟩) G3
      have hbe := below_sets2 (below_trans' hbW hbW.size hB3) (show w.heap.size ≤ w.heap.size + 1 + 1 by omega) (.string ⟨#[]⟩) (.string ⟨#[]⟩)
      go_wp2_with fail
      generalize ((w3.alloc (.cells #[.bool s, .slice A5 l5 c5, .slice A6 l6 c6] 116)).setCell ⟨w.heap.size + 1 + 1, 0, none⟩ (.string ⟨#[]⟩)).setCell ⟨w.heap.size + 1 + 1, 1, none⟩ (.string ⟨#[]⟩) = W3 at y0 y1 hbe ⊢
      exact bodyPost_ret (v := .tuple #[.agg #[.string ⟨#[]⟩, .string ⟨#[]⟩], .bool false]) (by simp [results, Tryz.results105, go_sem, y0, y1]) rfl ⟨rfl, hbe⟩
    | true =>
      obtain ⟨u1, u2, u3, u4⟩ := HOK.out rfl
      have hRw : wrR (ratP s n d) = R := by rw [← HRV.out, u4, Option.bind_some]
      have HRW := Lib.hid hRw
      clear u4 hRw
      go_wp2_with fail
      refine (write70 (KD + KD + 2) _ s n d _ (by decide) (by decide) u2 u3 u1 hf3).mono ?_
      rintro e w4 ⟨rfl, hb4⟩
      rw [HRW.out]
      have hB4 := below_trans' hB3 hB3.size hb4
      have G4 := blk_below hB4 g2
      have k3 := cells2 G4
      have f3 := free_of_block G4
      clear hb4 hf3 q7 z3 y3 G3
      obtain ⟨A, B, ok, hAB, -⟩ : ∃ A B ok, txV R = .tuple #[.agg #[.string A, .string B], .bool ok] ∧ True := by
        cases R with
        | none => exact ⟨_, _, _, rfl, trivial⟩
        | some r => exact ⟨_, _, _, rfl, trivial⟩
      rw [hAB]
      go_wp2_with fail
      obtain ⟨y0, y1⟩ := ret2 (A := A) (B := B) G4
      have hbe := below_sets2 (below_trans' hbW hbW.size hB4) (show w.heap.size ≤ w.heap.size + 1 + 1 by omega) (.string A) (.string B)
      generalize ((w4.setCell ⟨w.heap.size + 1 + 1, 0, none⟩ (.string A)).setCell ⟨w.heap.size + 1 + 1, 1, none⟩ (.string B)) = W3 at y0 y1 hbe ⊢
      exact bodyPost_ret (v := .tuple #[.agg #[.string A, .string B], .bool ok]) (by simp [results, Tryz.results105, go_sem, y0, y1]) rfl ⟨by rw [hAB], hbe⟩
  · have hR0 : R = none := by
      rw [← HR.out]
      refine op2_none ?_
      cases o1 with
      | false => rw [HX1.out rfl]; rfl
      | true =>
        cases o2 with
        | false => rw [HX2.out rfl]; simp
        | true => exact absurd ⟨rfl, rfl⟩ ho
    subst hR0
    obtain ⟨y0, y1⟩ := ret2 (A := ⟨#[]⟩) (B := ⟨#[]⟩) G2
    have hbe := below_sets2 (below_trans' hbW hbW.size hB2) (show w.heap.size ≤ w.heap.size + 1 + 1 by omega) (.string ⟨#[]⟩) (.string ⟨#[]⟩)
    generalize hw9 : ((w2.alloc (.cells #[.bool s2, .slice A3 l3 c3, .slice A4 l4 c4] 116)).setCell ⟨w.heap.size + 1 + 1, 0, none⟩ (.string ⟨#[]⟩)).setCell ⟨w.heap.size + 1 + 1, 1, none⟩ (.string ⟨#[]⟩) = W3 at y0 y1 hbe
    have HW9 := Lib.hid hw9
    clear hw9 q0 q1
    cases o1 with
    | false =>
      go_wp2_with fail
      rw [HW9.out]
      exact bodyPost_ret (v := .tuple #[.agg #[.string ⟨#[]⟩, .string ⟨#[]⟩], .bool false]) (by simp [results, Tryz.results105, go_sem, y0, y1]) rfl ⟨rfl, hbe⟩
    | true =>
      cases o2 with
      | true => exact absurd ⟨rfl, rfl⟩ ho
      | false =>
        clear ho
        go_wp2_with fail
        rw [HW9.out]
        exact bodyPost_ret (v := .tuple #[.agg #[.string ⟨#[]⟩, .string ⟨#[]⟩], .bool false]) (by simp [results, Tryz.results105, go_sem, y0, y1]) rfl ⟨rfl, hbe⟩

set_option maxRecDepth 100000 in
set_option maxHeartbeats 4000000 in
theorem mul25 (N1 D1 N2 D2 : ByteArray) (w : World) (hN1 : N1.size ≤ maxLen) (hD1 : D1.size ≤ maxLen) (hN2 : N2.size ≤ maxLen) (hD2 : D2.size ≤ maxLen) :
    Calls Tryz.prog 98 #[.agg #[.string N1, .string D1], .agg #[.string N2, .string D2]] w fun e w' => e = .returned (txV (mulT (N1.data.toList, D1.data.toList) (N2.data.toList, D2.data.toList))) ∧ Below w.heap.size w w' := by
  have hw := fun w => with73_74 _ inner74 N1 D1 N2 D2 w hN1 hD1 hN2 hD2
  obtain ⟨R, hR⟩ : ∃ R, mulT (N1.data.toList, D1.data.toList) (N2.data.toList, D2.data.toList) = R := ⟨_, rfl⟩
  have hw2 : ∀ w, Calls Tryz.prog 105 #[.agg #[.string N1, .string D1], .agg #[.string N2, .string D2], .func (Fn.func 125) #[] #[]] w fun e w' => e = .returned (txV R) ∧ Below w.heap.size w w' := by
    rw [← hR]; exact hw
  rw [hR]
  have HW := Lib.hid hw2
  obtain ⟨hbW, g0, g1, g2⟩ := allocs3 w #[.string N1, .string D1] #[.string N2, .string D2] #[.string ⟨#[]⟩, .string ⟨#[]⟩] 26 26 26
  clear hR hw hw2
  go_enter Tryz.func98, Tryz.ntmps98
  go_wp2_with fail
  generalize ((w.alloc (.cells #[.string N1, .string D1] 26)).alloc (.cells #[.string N2, .string D2] 26)).alloc (.cells #[.string ⟨#[]⟩, .string ⟨#[]⟩] 26) = W at *
  have hW2 : w.heap.size + 1 + 1 < W.heap.size := lt_of_blk g2
  refine (HW.out W).mono ?_
  rintro e w4 ⟨rfl, hb4⟩
  have G4 := blk_below hb4 g2
  have k3 := cells2 G4
  have f3 := free_of_block G4
  obtain ⟨A, B, ok, hAB, -⟩ : ∃ A B ok, txV R = .tuple #[.agg #[.string A, .string B], .bool ok] ∧ True := by
    cases R with
    | none => exact ⟨_, _, _, rfl, trivial⟩
    | some r => exact ⟨_, _, _, rfl, trivial⟩
  rw [hAB]
  go_wp2_with fail
  obtain ⟨y0, y1⟩ := ret2 (A := A) (B := B) G4
  have hbe := below_sets2 (below_trans' hbW hbW.size hb4) (show w.heap.size ≤ w.heap.size + 1 + 1 by omega) (.string A) (.string B)
  generalize ((w4.setCell ⟨w.heap.size + 1 + 1, 0, none⟩ (.string A)).setCell ⟨w.heap.size + 1 + 1, 1, none⟩ (.string B)) = W3 at y0 y1 hbe ⊢
  exact bodyPost_ret (v := .tuple #[.agg #[.string A, .string B], .bool ok]) (by simp [results, Tryz.results98, go_sem, y0, y1]) rfl ⟨by rw [hAB], hbe⟩

set_option maxRecDepth 100000 in
set_option maxHeartbeats 4000000 in
theorem add27 (N1 D1 N2 D2 : ByteArray) (w : World) (hN1 : N1.size ≤ maxLen) (hD1 : D1.size ≤ maxLen) (hN2 : N2.size ≤ maxLen) (hD2 : D2.size ≤ maxLen) :
    Calls Tryz.prog 72 #[.agg #[.string N1, .string D1], .agg #[.string N2, .string D2]] w fun e w' => e = .returned (txV (addT (N1.data.toList, D1.data.toList) (N2.data.toList, D2.data.toList))) ∧ Below w.heap.size w w' := by
  have hw := fun w => with73_76 _ inner76 N1 D1 N2 D2 w hN1 hD1 hN2 hD2
  obtain ⟨R, hR⟩ : ∃ R, addT (N1.data.toList, D1.data.toList) (N2.data.toList, D2.data.toList) = R := ⟨_, rfl⟩
  have hw2 : ∀ w, Calls Tryz.prog 105 #[.agg #[.string N1, .string D1], .agg #[.string N2, .string D2], .func (Fn.func 108) #[] #[]] w fun e w' => e = .returned (txV R) ∧ Below w.heap.size w w' := by
    rw [← hR]; exact hw
  rw [hR]
  have HW := Lib.hid hw2
  obtain ⟨hbW, g0, g1, g2⟩ := allocs3 w #[.string N1, .string D1] #[.string N2, .string D2] #[.string ⟨#[]⟩, .string ⟨#[]⟩] 26 26 26
  clear hR hw hw2
  go_enter Tryz.func72, Tryz.ntmps72
  go_wp2_with fail
  generalize ((w.alloc (.cells #[.string N1, .string D1] 26)).alloc (.cells #[.string N2, .string D2] 26)).alloc (.cells #[.string ⟨#[]⟩, .string ⟨#[]⟩] 26) = W at *
  have hW2 : w.heap.size + 1 + 1 < W.heap.size := lt_of_blk g2
  refine (HW.out W).mono ?_
  rintro e w4 ⟨rfl, hb4⟩
  have G4 := blk_below hb4 g2
  have k3 := cells2 G4
  have f3 := free_of_block G4
  obtain ⟨A, B, ok, hAB, -⟩ : ∃ A B ok, txV R = .tuple #[.agg #[.string A, .string B], .bool ok] ∧ True := by
    cases R with
    | none => exact ⟨_, _, _, rfl, trivial⟩
    | some r => exact ⟨_, _, _, rfl, trivial⟩
  rw [hAB]
  go_wp2_with fail
  obtain ⟨y0, y1⟩ := ret2 (A := A) (B := B) G4
  have hbe := below_sets2 (below_trans' hbW hbW.size hb4) (show w.heap.size ≤ w.heap.size + 1 + 1 by omega) (.string A) (.string B)
  generalize ((w4.setCell ⟨w.heap.size + 1 + 1, 0, none⟩ (.string A)).setCell ⟨w.heap.size + 1 + 1, 1, none⟩ (.string B)) = W3 at y0 y1 hbe ⊢
  exact bodyPost_ret (v := .tuple #[.agg #[.string A, .string B], .bool ok]) (by simp [results, Tryz.results72, go_sem, y0, y1]) rfl ⟨by rw [hAB], hbe⟩

set_option maxRecDepth 100000 in
set_option maxHeartbeats 4000000 in
theorem sub29 (N1 D1 N2 D2 : ByteArray) (w : World) (hN1 : N1.size ≤ maxLen) (hD1 : D1.size ≤ maxLen) (hN2 : N2.size ≤ maxLen) (hD2 : D2.size ≤ maxLen) :
    Calls Tryz.prog 71 #[.agg #[.string N1, .string D1], .agg #[.string N2, .string D2]] w fun e w' => e = .returned (txV (subT (N1.data.toList, D1.data.toList) (N2.data.toList, D2.data.toList))) ∧ Below w.heap.size w w' := by
  have hw := fun w => with73_79 _ inner79 N1 D1 N2 D2 w hN1 hD1 hN2 hD2
  obtain ⟨R, hR⟩ : ∃ R, subT (N1.data.toList, D1.data.toList) (N2.data.toList, D2.data.toList) = R := ⟨_, rfl⟩
  have hw2 : ∀ w, Calls Tryz.prog 105 #[.agg #[.string N1, .string D1], .agg #[.string N2, .string D2], .func (Fn.func 106) #[] #[]] w fun e w' => e = .returned (txV R) ∧ Below w.heap.size w w' := by
    rw [← hR]; exact hw
  rw [hR]
  have HW := Lib.hid hw2
  obtain ⟨hbW, g0, g1, g2⟩ := allocs3 w #[.string N1, .string D1] #[.string N2, .string D2] #[.string ⟨#[]⟩, .string ⟨#[]⟩] 26 26 26
  clear hR hw hw2
  go_enter Tryz.func71, Tryz.ntmps71
  go_wp2_with fail
  generalize ((w.alloc (.cells #[.string N1, .string D1] 26)).alloc (.cells #[.string N2, .string D2] 26)).alloc (.cells #[.string ⟨#[]⟩, .string ⟨#[]⟩] 26) = W at *
  have hW2 : w.heap.size + 1 + 1 < W.heap.size := lt_of_blk g2
  refine (HW.out W).mono ?_
  rintro e w4 ⟨rfl, hb4⟩
  have G4 := blk_below hb4 g2
  have k3 := cells2 G4
  have f3 := free_of_block G4
  obtain ⟨A, B, ok, hAB, -⟩ : ∃ A B ok, txV R = .tuple #[.agg #[.string A, .string B], .bool ok] ∧ True := by
    cases R with
    | none => exact ⟨_, _, _, rfl, trivial⟩
    | some r => exact ⟨_, _, _, rfl, trivial⟩
  rw [hAB]
  go_wp2_with fail
  obtain ⟨y0, y1⟩ := ret2 (A := A) (B := B) G4
  have hbe := below_sets2 (below_trans' hbW hbW.size hb4) (show w.heap.size ≤ w.heap.size + 1 + 1 by omega) (.string A) (.string B)
  generalize ((w4.setCell ⟨w.heap.size + 1 + 1, 0, none⟩ (.string A)).setCell ⟨w.heap.size + 1 + 1, 1, none⟩ (.string B)) = W3 at y0 y1 hbe ⊢
  exact bodyPost_ret (v := .tuple #[.agg #[.string A, .string B], .bool ok]) (by simp [results, Tryz.results71, go_sem, y0, y1]) rfl ⟨by rw [hAB], hbe⟩

set_option maxRecDepth 100000 in
set_option maxHeartbeats 4000000 in
theorem div30 (N1 D1 N2 D2 : ByteArray) (w : World) (hN1 : N1.size ≤ maxLen) (hD1 : D1.size ≤ maxLen) (hN2 : N2.size ≤ maxLen) (hD2 : D2.size ≤ maxLen) :
    Calls Tryz.prog 99 #[.agg #[.string N1, .string D1], .agg #[.string N2, .string D2]] w fun e w' => e = .returned (txV (divT (N1.data.toList, D1.data.toList) (N2.data.toList, D2.data.toList))) ∧ Below w.heap.size w w' := by
  have hw := fun w => with73_80 _ inner80 N1 D1 N2 D2 w hN1 hD1 hN2 hD2
  obtain ⟨R, hR⟩ : ∃ R, divT (N1.data.toList, D1.data.toList) (N2.data.toList, D2.data.toList) = R := ⟨_, rfl⟩
  have hw2 : ∀ w, Calls Tryz.prog 105 #[.agg #[.string N1, .string D1], .agg #[.string N2, .string D2], .func (Fn.func 126) #[] #[]] w fun e w' => e = .returned (txV R) ∧ Below w.heap.size w w' := by
    rw [← hR]; exact hw
  rw [hR]
  have HW := Lib.hid hw2
  obtain ⟨hbW, g0, g1, g2⟩ := allocs3 w #[.string N1, .string D1] #[.string N2, .string D2] #[.string ⟨#[]⟩, .string ⟨#[]⟩] 26 26 26
  clear hR hw hw2
  go_enter Tryz.func99, Tryz.ntmps99
  go_wp2_with fail
  generalize ((w.alloc (.cells #[.string N1, .string D1] 26)).alloc (.cells #[.string N2, .string D2] 26)).alloc (.cells #[.string ⟨#[]⟩, .string ⟨#[]⟩] 26) = W at *
  have hW2 : w.heap.size + 1 + 1 < W.heap.size := lt_of_blk g2
  refine (HW.out W).mono ?_
  rintro e w4 ⟨rfl, hb4⟩
  have G4 := blk_below hb4 g2
  have k3 := cells2 G4
  have f3 := free_of_block G4
  obtain ⟨A, B, ok, hAB, -⟩ : ∃ A B ok, txV R = .tuple #[.agg #[.string A, .string B], .bool ok] ∧ True := by
    cases R with
    | none => exact ⟨_, _, _, rfl, trivial⟩
    | some r => exact ⟨_, _, _, rfl, trivial⟩
  rw [hAB]
  go_wp2_with fail
  obtain ⟨y0, y1⟩ := ret2 (A := A) (B := B) G4
  have hbe := below_sets2 (below_trans' hbW hbW.size hb4) (show w.heap.size ≤ w.heap.size + 1 + 1 by omega) (.string A) (.string B)
  generalize ((w4.setCell ⟨w.heap.size + 1 + 1, 0, none⟩ (.string A)).setCell ⟨w.heap.size + 1 + 1, 1, none⟩ (.string B)) = W3 at y0 y1 hbe ⊢
  exact bodyPost_ret (v := .tuple #[.agg #[.string A, .string B], .bool ok]) (by simp [results, Tryz.results99, go_sem, y0, y1]) rfl ⟨by rw [hAB], hbe⟩
end Go.Proofs.YtpligjkbnlfhgaaGreatDoor
