/- Writing a fraction, the program's. -/
import Derived.Test.YtpligjkbnlfhgaaGreatDoorFrD
import Derived.Test.YtpligjkbnlfhgaaGreatDoorStrB
namespace Go.Proofs.YtpligjkbnlfhgaaGreatDoor
open Go.RowKit

/-- The answer of a writer. -/
def txV (t : Option Txt) : Value := match t with
  | some (a, b) => .tuple #[.agg #[.string ⟨a.toArray⟩, .string ⟨b.toArray⟩], .bool true]
  | none => .tuple #[.agg #[.string ⟨#[]⟩, .string ⟨#[]⟩], .bool false]
theorem wr_ratP {s : Bool} {n d : Nat} (hd : d ≠ 0) : wrR (ratP s n d) = if 400 < (decT (n / Nat.gcd n d)).length ∨ 400 < (decT (d / Nat.gcd n d)).length then none else
    some (signT (s && decide (n / Nat.gcd n d ≠ 0)) (decT (n / Nat.gcd n d)), decT (d / Nat.gcd n d)) := by
  obtain ⟨h1, h2, h3⟩ := ratP_num (neg := s) (n := n) hd
  have h0 : n / Nat.gcd n d = 0 ↔ n = 0 := by
    constructor
    · intro h
      have := Nat.div_mul_cancel (Nat.gcd_dvd_left n d)
      rw [h] at this; omega
    · rintro rfl; simp
  have e : decide (n / Nat.gcd n d ≠ 0) = decide (n ≠ 0) := by rw [decide_eq_decide]; omega
  have l1 := decT_len (n / Nat.gcd n d) (k := 400) (by decide)
  have l2 := decT_len (d / Nat.gcd n d) (k := 400) (by decide)
  have hf : fitsR (ratP s n d) ↔ ¬ (400 < (decT (n / Nat.gcd n d)).length ∨ 400 < (decT (d / Nat.gcd n d)).length) := by
    unfold fitsR
    rw [h1, h2, ← l1, ← l2]
    omega
  unfold wrR
  by_cases h : fitsR (ratP s n d)
  · rw [if_pos h, if_neg (hf.1 h)]
    unfold txt
    rw [h1, h2, h3, e]
  · rw [if_neg h, if_pos (Classical.not_not.1 fun h' => h (hf.2 h'))]
theorem cells2 {w : World} {g : Nat} {x y : Value} {t : TypeId} (h : w.heap[g]? = some (.cells #[x, y] t (0, 0))) : w.cell? ⟨g, 0, none⟩ = some x ∧ w.cell? ⟨g, 1, none⟩ = some y := ⟨cell_of_block h 0, cell_of_block h 1⟩

/-- Two texts in a block of their own. -/
def TxBlk (W : World) (A B : ByteArray) (s9 : Value) (wx : World) : Prop := ∃ g : Nat, s9 = .pointer (some ⟨g, 0, none⟩) ∧ W.heap.size ≤ g ∧ wx.heap[g]? = some (.cells #[.string A, .string B] 26 (0, 0)) ∧ Below W.heap.size W wx
theorem TxBlk.new {W w2 : World} {A B : ByteArray} (hB : Below W.heap.size W w2) : TxBlk W A B (.pointer (some ⟨w2.heap.size, 0, none⟩)) (w2.alloc (.cells #[.string A, .string B] 26)) :=
  ⟨_, rfl, hB.size, heap_alloc_new w2 _, hB.alloc hB.size _⟩
theorem TxBlk.set {W w2 : World} {A B a b : ByteArray} {g : Nat} (hB : Below W.heap.size W w2) (hg : w2.heap[g]? = some (.cells #[.string a, .string b] 26 (0, 0))) (hgW : W.heap.size ≤ g) :
    TxBlk W A B (.pointer (some ⟨g, 0, none⟩)) ((w2.setCell ⟨g, 0, none⟩ (.string A)).setCell ⟨g, 1, none⟩ (.string B)) :=
  ⟨_, rfl, hgW, block_set (block_set hg 0 _) 1 _, (hB.setCell (p := ⟨g, 0, none⟩) hgW _).setCell (p := ⟨g, 1, none⟩) hgW _⟩

theorem ret2 {wv : World} {z : Nat} {a b A B : ByteArray} (hg : wv.heap[z]? = some (.cells #[.string a, .string b] 26 (0, 0))) :
    ((wv.setCell ⟨z, 0, none⟩ (.string A)).setCell ⟨z, 1, none⟩ (.string B)).cell? ⟨z, 0, none⟩ = some (.string A) ∧ ((wv.setCell ⟨z, 0, none⟩ (.string A)).setCell ⟨z, 1, none⟩ (.string B)).cell? ⟨z, 1, none⟩ = some (.string B) :=
  cells2 (block_set (block_set hg 0 _) 1 _)
theorem below_sets2 {n z : Nat} {w wv : World} (h : Below n w wv) (hz : n ≤ z) (a b : Value) : Below n w ((wv.setCell ⟨z, 0, none⟩ a).setCell ⟨z, 1, none⟩ b) :=
  (h.setCell (p := ⟨z, 0, none⟩) hz _).setCell (p := ⟨z, 1, none⟩) hz _
theorem minus_app (L : List UInt8) : (⟨#[45]⟩ : ByteArray) ++ ⟨L.toArray⟩ = ⟨(45 :: L).toArray⟩ := by
  apply ByteArray.ext
  simp [ByteArray.data_append]

set_option maxRecDepth 100000 in
set_option maxHeartbeats 8000000 in
theorem write70 (K : Nat) (x : Value) (s : Bool) (n d : Nat) (w : World) (hK : K ≤ 100000) (hK3 : 30 ≤ K) (a1 : Sm K n) (a2 : Sm K d) (hd0 : d ≠ 0) (h : FrP w x s n d) :
    Calls Tryz.prog 94 #[x] w fun e w' => e = .returned (txV (wrR (ratP s n d))) ∧ Below w.heap.size w w' := by
  obtain ⟨p, q, rfl, hp, hq⟩ := h
  obtain ⟨Ap, np, cp, rfl, _⟩ := hp.shape (by omega)
  obtain ⟨Aq, nq, cq, rfl, _⟩ := hq.shape (by omega)
  have hG0 : Nat.gcd n d ≠ 0 := by have := Nat.gcd_pos_of_pos_right n (Nat.pos_of_ne_zero hd0); omega
  have a3 : Sm K (Nat.gcd n d) := Nat.lt_of_le_of_lt (Nat.le_of_dvd (Nat.pos_of_ne_zero hd0) (Nat.gcd_dvd_right n d)) a2
  have a4 : Sm K (n / Nat.gcd n d) := Nat.lt_of_le_of_lt (Nat.div_le_self _ _) a1
  have a5 : Sm K (d / Nat.gcd n d) := Nat.lt_of_le_of_lt (Nat.div_le_self _ _) a2
  rw [wr_ratP hd0]
  generalize hG : Nat.gcd n d = G at *
  have HG := Lib.hid hG
  generalize hn1 : n / G = n1 at *
  generalize hd1 : d / G = d1 at *
  have HN1 := Lib.hid hn1
  have HD1 := Lib.hid hd1
  obtain ⟨A, hA⟩ : ∃ A : ByteArray, (⟨(decT n1).toArray⟩ : ByteArray) = A := ⟨_, rfl⟩
  obtain ⟨B, hB⟩ : ∃ B : ByteArray, (⟨(decT d1).toArray⟩ : ByteArray) = B := ⟨_, rfl⟩
  have hAl : A.size = (decT n1).length := by rw [← hA]; simp [ByteArray.size]
  have hBl : B.size = (decT d1).length := by rw [← hB]; simp [ByteArray.size]
  have HA := Lib.hid hA
  have HB := Lib.hid hB
  have HAL := Lib.hid hAl
  have HBL := Lib.hid hBl
  obtain ⟨R, hR⟩ : ∃ R : Option Txt, (if 400 < (decT n1).length ∨ 400 < (decT d1).length then none else some (signT (s && decide (n1 ≠ 0)) (decT n1), decT d1)) = R := ⟨_, rfl⟩
  rw [hR]
  have HR := Lib.hid hR
  clear hG hn1 hd1 hA hB hAl hBl hR
  obtain ⟨hbW, g0, g1⟩ := allocs2 w #[.bool s, .slice Ap np cp, .slice Aq nq cq] #[.string ⟨#[]⟩, .string ⟨#[]⟩] 116 26
  have k0 := cells3 g0
  go_enter Tryz.func94, Tryz.ntmps94
  go_wp2_with fail
  generalize (w.alloc (.cells #[.bool s, .slice Ap np cp, .slice Aq nq cq] 116)).alloc (.cells #[.string ⟨#[]⟩, .string ⟨#[]⟩] 26) = W at *
  have hw1 : w.heap.size + 1 < W.heap.size := lt_of_blk g1
  have hlt0 : w.heap.size < W.heap.size := by omega
  have hpW := hp.below hbW
  have hqW := hq.below hbW
  clear hp hq k0
  refine (gcd110 K _ _ d n _ (by omega) hK3 a2 a1 hqW hpW).mono ?_
  rintro e w1 ⟨v1, rfl, hv1, hb1⟩
  obtain ⟨Ag, ng, cg, rfl, -⟩ := NatV.shape (by omega) hv1
  rw [HG.out] at hv1
  have k1 := cells3 (blk_below hb1 g0)
  go_wp2_with fail
  refine (divNat60 K _ _ n G _ (by omega) hK3 a1 a3 hG0 (hpW.below hb1) hv1).mono ?_
  rintro e w2 ⟨v2, r2, rfl, hv2, hr2, hb2⟩
  obtain ⟨A2, n2, c2, rfl, hz2⟩ := NatV.shape (by omega) hv2
  obtain ⟨A2', n2', c2', rfl, -⟩ := NatV.shape (by omega) hr2
  rw [HN1.out] at hv2
  rw [HN1.out] at hz2
  have hB2 := below_trans' hb1 hb1.size hb2
  have k2 := cells3 (blk_below hB2 g0)
  clear k1
  go_wp2_with fail
  refine (divNat60 K _ _ d G _ (by omega) hK3 a2 a3 hG0 (hqW.below hB2) (hv1.below hb2)).mono ?_
  rintro e w3 ⟨v3, r3, rfl, hv3, hr3, hb3⟩
  obtain ⟨A3, n3, c3, rfl, -⟩ := NatV.shape (by omega) hv3
  obtain ⟨A3', n3', c3', rfl, -⟩ := NatV.shape (by omega) hr3
  rw [HD1.out] at hv3
  have hB3 := below_trans' hB2 hB2.size hb3
  have k3 := cells3 (blk_below hB3 g0)
  clear k2
  go_wp2_with fail
  refine (string126 K _ n1 _ hK a4 (hv2.below hb3)).mono ?_
  rintro e w4 ⟨rfl, hb4⟩
  rw [HA.out]
  have hB4 := below_trans' hB3 hB3.size hb4
  go_wp2_with fail
  refine (string126 K _ d1 _ hK a5 (hv3.below hb4)).mono ?_
  rintro e w5 ⟨rfl, hb5⟩
  rw [HB.out]
  have hB5 := below_trans' hB4 hB4.size hb5
  have g5 := blk_below hB5 g0
  have g6 := blk_below hB5 g1
  have k5 := cells3 g5
  clear k3 hb5 hb4 hb3 hb2 hr2 hr3 hv1 hv2 hv3
  go_upto_region 5 with fail
  have hB9 := hB5.alloc hB5.size (.cells #[.string A, .string B] 26)
  have g9 := heap_alloc_new w5 (.cells #[.string A, .string B] 26)
  obtain ⟨z9, hz9⟩ : ∃ z9, w5.heap.size = z9 := ⟨_, rfl⟩
  have hWz : W.heap.size ≤ z9 := by rw [← hz9]; exact hB5.size
  rw [hz9] at g9
  rw [hz9]
  generalize w5.alloc (.cells #[.string A, .string B] 26) = w9 at *
  clear g5 g6 k5 hB5 hz9 hB4 hB3 hB2 hb1 hpW hqW
  have gf := blk_below hB9 g0
  have gr := blk_below hB9 g1
  have k9 := cells2 g9
  have kf := cells3 gf
  have kr := cells2 gr
  have fr := free_of_block gr
  have f9 := free_of_block g9
  have f400 : (400 : Int) < (A.size : Int) ↔ 400 < A.size := by omega
  by_cases hA4 : (400 : Int) < (A.size : Int)
  · have hR0 : R = none := by rw [← HR.out, if_pos (.inl (by rw [← HAL.out]; omega))]
    subst hR0
    clear f400
    go_wp2_with fail
    obtain ⟨y0, y1⟩ := ret2 (A := ⟨#[]⟩) (B := ⟨#[]⟩) gr
    have hbe := below_sets2 (below_trans' hbW hbW.size hB9) (show w.heap.size ≤ w.heap.size + 1 by omega) (.string ⟨#[]⟩) (.string ⟨#[]⟩)
    generalize ((w9.setCell ⟨w.heap.size + 1, 0, none⟩ (.string ⟨#[]⟩)).setCell ⟨w.heap.size + 1, 1, none⟩ (.string ⟨#[]⟩)) = W3 at y0 y1 hbe ⊢
    exact bodyPost_ret (v := .tuple #[.agg #[.string ⟨#[]⟩, .string ⟨#[]⟩], .bool false]) (by simp [results, Tryz.results94, go_sem, y0, y1]) rfl ⟨rfl, hbe⟩
  · by_cases hB4 : (400 : Int) < (B.size : Int)
    · have hR0 : R = none := by rw [← HR.out, if_pos (.inr (by rw [← HBL.out]; omega))]
      subst hR0
      clear f400
      go_wp2_with fail
      obtain ⟨y0, y1⟩ := ret2 (A := ⟨#[]⟩) (B := ⟨#[]⟩) gr
      have hbe := below_sets2 (below_trans' hbW hbW.size hB9) (show w.heap.size ≤ w.heap.size + 1 by omega) (.string ⟨#[]⟩) (.string ⟨#[]⟩)
      generalize ((w9.setCell ⟨w.heap.size + 1, 0, none⟩ (.string ⟨#[]⟩)).setCell ⟨w.heap.size + 1, 1, none⟩ (.string ⟨#[]⟩)) = W3 at y0 y1 hbe ⊢
      exact bodyPost_ret (v := .tuple #[.agg #[.string ⟨#[]⟩, .string ⟨#[]⟩], .bool false]) (by simp [results, Tryz.results94, go_sem, y0, y1]) rfl ⟨rfl, hbe⟩
    · have hR0 : some (signT (s && decide (n1 ≠ 0)) (decT n1), decT d1) = R := by rw [← HR.out, if_neg (by rw [← HBL.out, ← HAL.out]; omega)]
      have HR0 := Lib.hid hR0
      have hA3 : 1 + A.size ≤ maxLen := by unfold maxLen; omega
      clear HR hR0 f400
      cases s with
      | false =>
        go_wp2_with fail
        obtain ⟨y0, y1⟩ := ret2 (A := A) (B := B) gr
        have hbe := below_sets2 (below_trans' hbW hbW.size hB9) (show w.heap.size ≤ w.heap.size + 1 by omega) (.string A) (.string B)
        generalize ((w9.setCell ⟨w.heap.size + 1, 0, none⟩ (.string A)).setCell ⟨w.heap.size + 1, 1, none⟩ (.string B)) = W3 at y0 y1 hbe ⊢
        exact bodyPost_ret (v := .tuple #[.agg #[.string A, .string B], .bool true]) (by simp [results, Tryz.results94, go_sem, y0, y1]) rfl ⟨by rw [← HR0.out, ← HA.out, ← HB.out]; rfl, hbe⟩
      | true =>
        by_cases hz : n2 = 0
        · have hn0 : n1 = 0 := hz2.2.2.1 hz
          have hzI : ¬ (0 : Int) < (n2 : Int) := by omega
          go_wp2_with fail
          obtain ⟨y0, y1⟩ := ret2 (A := A) (B := B) gr
          have hbe := below_sets2 (below_trans' hbW hbW.size hB9) (show w.heap.size ≤ w.heap.size + 1 by omega) (.string A) (.string B)
          generalize ((w9.setCell ⟨w.heap.size + 1, 0, none⟩ (.string A)).setCell ⟨w.heap.size + 1, 1, none⟩ (.string B)) = W3 at y0 y1 hbe ⊢
          exact bodyPost_ret (v := .tuple #[.agg #[.string A, .string B], .bool true]) (by simp [results, Tryz.results94, go_sem, y0, y1]) rfl ⟨by rw [← HR0.out, ← HA.out, ← HB.out, hn0]; rfl, hbe⟩
        · have hn0 : n1 ≠ 0 := fun h => hz (hz2.2.2.2 h)
          have hzI : (0 : Int) < (n2 : Int) := by omega
          go_wp2_with fail
          have gr2 : (w9.setCell ⟨z9, 0, none⟩ (.string ((⟨#[45]⟩ : ByteArray) ++ A))).heap[w.heap.size + 1]? = some (.cells #[.string ⟨#[]⟩, .string ⟨#[]⟩] 26 (0, 0)) := by rw [Below.heap_setCell w9 ⟨z9, 0, none⟩ _ (w.heap.size + 1) (by show w.heap.size + 1 ≠ z9; omega)]; exact gr
          have hB10 := hB9.setCell (p := ⟨z9, 0, none⟩) hWz (.string ((⟨#[45]⟩ : ByteArray) ++ A))
          obtain ⟨y0, y1⟩ := ret2 (A := ((⟨#[45]⟩ : ByteArray) ++ A)) (B := B) gr2
          have hbe := below_sets2 (below_trans' hbW hbW.size hB10) (show w.heap.size ≤ w.heap.size + 1 by omega) (.string ((⟨#[45]⟩ : ByteArray) ++ A)) (.string B)
          generalize (((w9.setCell ⟨z9, 0, none⟩ (.string ((⟨#[45]⟩ : ByteArray) ++ A))).setCell ⟨w.heap.size + 1, 0, none⟩ (.string ((⟨#[45]⟩ : ByteArray) ++ A))).setCell ⟨w.heap.size + 1, 1, none⟩ (.string B)) = W3 at y0 y1 hbe ⊢
          exact bodyPost_ret (v := .tuple #[.agg #[.string ((⟨#[45]⟩ : ByteArray) ++ A), .string B], .bool true]) (by simp [results, Tryz.results94, go_sem, y0, y1]) rfl ⟨by rw [← HR0.out, ← HA.out, ← HB.out, minus_app, decide_eq_true hn0]; rfl, hbe⟩
end Go.Proofs.YtpligjkbnlfhgaaGreatDoor
