/- Fractions in parts, the program's: quotients; the sum and the difference as functions. -/
import Derived.Test.YtpligjkbnlfhgaaGreatDoorFrB
namespace Go.Proofs.YtpligjkbnlfhgaaGreatDoor
open Go.RowKit

set_option maxRecDepth 100000 in
set_option maxHeartbeats 4000000 in
theorem div80 (K : Nat) (x y : Value) (s1 s2 : Bool) (n1 d1 n2 d2 : Nat) (w : World) (hK : K ≤ 100000) (a1 : Sm K n1) (a2 : Sm K d1) (a3 : Sm K n2) (a4 : Sm K d2) (h1 : FrP w x s1 n1 d1) (h2 : FrP w y s2 n2 d2) :
    Calls Tryz.prog 126 #[x, y] w fun e w' => ∃ f, e = .returned (.tuple #[f, .bool (decide (n2 ≠ 0))]) ∧ FrP w' f (s1 != s2) (n1 * d2) (d1 * n2) ∧ Below w.heap.size w w' := by
  obtain ⟨p, q, rfl, hp, hq⟩ := h1
  obtain ⟨p', q', rfl, hp', hq'⟩ := h2
  obtain ⟨Ap, np, cp, rfl, _, _, hnp⟩ := hp'.shape (by omega)
  have hdec : decide (0 < np) = decide (n2 ≠ 0) := by rw [decide_eq_decide]; omega
  have HDE := Lib.hid hdec
  clear hdec hnp
  obtain ⟨hbW, g0, g1, g2⟩ := allocs3 w #[.bool s1, p, q] #[.bool s2, .slice Ap np cp, q'] #[.bool false, .slice none 0 0, .slice none 0 0] 116 116 116
  go_enter Tryz.func126, Tryz.ntmps126
  go_wp2_with fail
  generalize ((w.alloc (.cells #[.bool s1, p, q] 116)).alloc (.cells #[.bool s2, .slice Ap np cp, q'] 116)).alloc (.cells #[.bool false, .slice none 0 0, .slice none 0 0] 116) = W at *
  have hsz : w.heap.size + 1 + 1 < W.heap.size := lt_of_blk g2
  have hpW := hp.below hbW
  have hqW := hq.below hbW
  have hpW' := hp'.below hbW
  have hqW' := hq'.below hbW
  have hbd : Below W.heap.size W W.drew := (Below.refl _ _).drew
  have k0 := cells3 (blk_below hbd g0)
  have k1 := cells3 (blk_below hbd g1)
  clear hp hq hp' hq'
  go_region_held3 (fun w' => (w'.cell? ⟨w.heap.size, 0, none⟩ = some (.bool s1) ∧ w'.cell? ⟨w.heap.size, 1, none⟩ = some p ∧ w'.cell? ⟨w.heap.size, 2, none⟩ = some q) ∧ (w'.cell? ⟨w.heap.size + 1, 0, none⟩ = some (.bool s2) ∧ w'.cell? ⟨w.heap.size + 1, 1, none⟩ = some (.slice Ap np cp) ∧ w'.cell? ⟨w.heap.size + 1, 2, none⟩ = some q'))
    (first | with_reducible exact ⟨m0, m1⟩ | with_reducible exact ⟨l0, l1⟩ | with_reducible exact ⟨k0, k1⟩ | with_reducible exact ⟨c3set (c3set (c3set m0 (by omega)) (by omega)) (by omega), c3set (c3set (c3set m1 (by omega)) (by omega)) (by omega)⟩)
    (first
      | (go_at_call_of 110 p; with_reducible refine (mulNat61 K p q' n1 d2 _ (by omega) a1 a4 (hpW.below hbd) (hqW'.below hbd)).mono ?_; rintro e w1 ⟨vn, rfl, hvn, hb1⟩; obtain ⟨A1, e1, c1, rfl, -⟩ := NatV.shape (by omega) hvn; have hB1 := below_trans' hbd (Nat.le_refl _) hb1; have l0 := cells3 (blk_below hB1 g0); have l1 := cells3 (blk_below hB1 g1))
      | (go_at_call_of 110 q; with_reducible refine (mulNat61 K q (.slice Ap np cp) d1 n2 _ (by omega) a2 a3 (hqW.below hB1) (hpW'.below hB1)).mono ?_; rintro e w2 ⟨vd, rfl, hvd, hb2⟩; obtain ⟨A2, e2, c2, rfl, -⟩ := NatV.shape (by omega) hvd; have hB2 := below_trans' hB1 hB1.size hb2; have m0 := cells3 (blk_below hB2 g0); have m1 := cells3 (blk_below hB2 g1); have m2 := cells3 (blk_below hB2 g2); have m3 := free_of_block (blk_below hB2 g2)))
  obtain ⟨t0, t1, t2⟩ := sets3 (blk_below hB2 g2) (.bool (!s1 == s2)) (.slice A1 e1 c1) (.slice A2 e2 c2)
  have hvn' := hvn.below hb2
  have q1 := hvn'.but (blk_below hB2 g2) no_dig3 (Nat.le_of_eq t2.symm) (fun k _ hk => t1 k hk)
  have q2 := hvd.but (blk_below hB2 g2) no_dig3 (Nat.le_of_eq t2.symm) (fun k _ hk => t1 k hk)
  have hbf := (hbW.trans (hB2.mono hbW.size))
  have hbf2 : Below w.heap.size w (((w2.setCell ⟨w.heap.size + 1 + 1, 0, none⟩ (.bool (!s1 == s2))).setCell ⟨w.heap.size + 1 + 1, 1, none⟩ (.slice A1 e1 c1)).setCell ⟨w.heap.size + 1 + 1, 2, none⟩ (.slice A2 e2 c2)) :=
    ((hbf.setCell (p := ⟨w.heap.size + 1 + 1, 0, none⟩) (by simp; omega) _).setCell (p := ⟨w.heap.size + 1 + 1, 1, none⟩) (by simp; omega) _).setCell (p := ⟨w.heap.size + 1 + 1, 2, none⟩) (by simp; omega) _
  obtain ⟨u0, u1, u2⟩ := cells3 t0
  clear m0 m1 m2 m3 l0 l1 k0 k1
  generalize ((w2.setCell ⟨w.heap.size + 1 + 1, 0, none⟩ (.bool (!s1 == s2))).setCell ⟨w.heap.size + 1 + 1, 1, none⟩ (.slice A1 e1 c1)).setCell ⟨w.heap.size + 1 + 1, 2, none⟩ (.slice A2 e2 c2) = w5 at *
  go_wp2_with fail
  exact bodyPost_ret (v := .tuple #[.agg #[.bool (!s1 == s2), .slice A1 e1 c1, .slice A2 e2 c2], .bool (decide (0 < np))]) (by simp [results, Tryz.results126, go_sem, u0, u1, u2]) rfl ⟨_, by rw [← HDE.out]; rfl, ⟨_, _, rfl, q1, q2⟩, hbf2⟩

set_option maxRecDepth 100000 in
set_option maxHeartbeats 4000000 in
theorem add76 (K : Nat) (x y : Value) (s1 s2 : Bool) (n1 d1 n2 d2 : Nat) (w : World) (hK : K ≤ 40000) (hK3 : 30 ≤ K) (a1 : Sm K n1) (a2 : Sm K d1) (a3 : Sm K n2) (a4 : Sm K d2) (h1 : FrP w x s1 n1 d1) (h2 : FrP w y s2 n2 d2) :
    Calls Tryz.prog 108 #[x, y] w fun e w' => ∃ f, e = .returned (.tuple #[f, .bool true]) ∧ FrP w' f (sumS s1 n1 d1 s2 n2 d2).1 (sumS s1 n1 d1 s2 n2 d2).2 (d1 * d2) ∧ Below w.heap.size w w' := by
  have h1' := h1
  have h2' := h2
  obtain ⟨p, q, rfl, hp, hq⟩ := h1
  obtain ⟨p', q', rfl, hp', hq'⟩ := h2
  obtain ⟨hbW, g0, g1, g2⟩ := allocs3 w #[.bool s1, p, q] #[.bool s2, p', q'] #[.bool false, .slice none 0 0, .slice none 0 0] 116 116 116
  go_enter Tryz.func108, Tryz.ntmps108
  go_wp2_with fail
  generalize ((w.alloc (.cells #[.bool s1, p, q] 116)).alloc (.cells #[.bool s2, p', q'] 116)).alloc (.cells #[.bool false, .slice none 0 0, .slice none 0 0] 116) = W at *
  have hsz : w.heap.size + 1 + 1 < W.heap.size := lt_of_blk g2
  refine (sum77 K _ _ s1 s2 n1 d1 n2 d2 W hK hK3 a1 a2 a3 a4 (h1'.below hbW) (h2'.below hbW)).mono ?_
  rintro e w2 ⟨f, rfl, ⟨vn, vd, rfl, hvn, hvd⟩, hb2⟩
  obtain ⟨A1, e1, c1, rfl, -⟩ := NatV.shape (by omega) hvn
  obtain ⟨A2, e2, c2, rfl, -⟩ := NatV.shape (by omega) hvd
  have ge := blk_below hb2 g2
  obtain ⟨sg, hsg⟩ : ∃ sg, (sumS s1 n1 d1 s2 n2 d2).1 = sg := ⟨_, rfl⟩
  rw [hsg]
  have HSG := Lib.hid hsg
  obtain ⟨t0, t1, t2⟩ := sets3 ge (.bool sg) (.slice A1 e1 c1) (.slice A2 e2 c2)
  have q1 := hvn.but ge no_dig3 (Nat.le_of_eq t2.symm) (fun k _ hk => t1 k hk)
  have q2 := hvd.but ge no_dig3 (Nat.le_of_eq t2.symm) (fun k _ hk => t1 k hk)
  have hbf := below_trans' hbW hbW.size hb2
  have hbf2 := ((hbf.setCell (p := ⟨w.heap.size + 1 + 1, 0, none⟩) (by simp; omega) (.bool sg)).setCell (p := ⟨w.heap.size + 1 + 1, 1, none⟩) (by simp; omega) (.slice A1 e1 c1)).setCell (p := ⟨w.heap.size + 1 + 1, 2, none⟩) (by simp; omega) (.slice A2 e2 c2)
  obtain ⟨u0, u1, u2⟩ := cells3 t0
  have ce := cells3 ge
  have fe := free_of_block ge
  clear hsg t0 t1 t2 hbf hp hq hp' hq'
  go_wp2_with fail
  exact bodyPost_ret (v := .tuple #[.agg #[.bool sg, .slice A1 e1 c1, .slice A2 e2 c2], .bool true]) (by simp [results, Tryz.results108, go_sem, u0, u1, u2]) rfl ⟨_, rfl, ⟨_, _, by rw [HSG.out], q1, q2⟩, hbf2⟩

set_option maxRecDepth 100000 in
set_option maxHeartbeats 4000000 in
theorem sub79 (K : Nat) (x y : Value) (s1 s2 : Bool) (n1 d1 n2 d2 : Nat) (w : World) (hK : K ≤ 40000) (hK3 : 30 ≤ K) (a1 : Sm K n1) (a2 : Sm K d1) (a3 : Sm K n2) (a4 : Sm K d2) (h1 : FrP w x s1 n1 d1) (h2 : FrP w y s2 n2 d2) :
    Calls Tryz.prog 106 #[x, y] w fun e w' => ∃ f, e = .returned (.tuple #[f, .bool true]) ∧ FrP w' f (sumS s1 n1 d1 (!s2) n2 d2).1 (sumS s1 n1 d1 (!s2) n2 d2).2 (d1 * d2) ∧ Below w.heap.size w w' := by
  obtain ⟨p, q, rfl, hp, hq⟩ := h1
  obtain ⟨p', q', rfl, hp', hq'⟩ := h2
  obtain ⟨Ap, ep, cp, rfl, _⟩ := hp'.shape (by omega)
  obtain ⟨Aq, eq, cq, rfl, _⟩ := hq'.shape (by omega)
  have h1' : FrP w (.agg #[.bool s1, p, q]) s1 n1 d1 := ⟨_, _, rfl, hp, hq⟩
  have h2' : FrP w (.agg #[.bool (!s2), .slice Ap ep cp, .slice Aq eq cq]) (!s2) n2 d2 := ⟨_, _, rfl, hp', hq'⟩
  obtain ⟨hbW, g0, g1, g2⟩ := allocs3 w #[.bool s1, p, q] #[.bool (!s2), .slice Ap ep cp, .slice Aq eq cq] #[.bool false, .slice none 0 0, .slice none 0 0] 116 116 116
  go_enter Tryz.func106, Tryz.ntmps106
  go_wp2_with fail
  generalize ((w.alloc (.cells #[.bool s1, p, q] 116)).alloc (.cells #[.bool (!s2), .slice Ap ep cp, .slice Aq eq cq] 116)).alloc (.cells #[.bool false, .slice none 0 0, .slice none 0 0] 116) = W at *
  have hsz : w.heap.size + 1 + 1 < W.heap.size := lt_of_blk g2
  refine (sum77 K _ _ s1 (!s2) n1 d1 n2 d2 W hK hK3 a1 a2 a3 a4 (h1'.below hbW) (h2'.below hbW)).mono ?_
  rintro e w2 ⟨f, rfl, ⟨vn, vd, rfl, hvn, hvd⟩, hb2⟩
  obtain ⟨A1, e1, c1, rfl, -⟩ := NatV.shape (by omega) hvn
  obtain ⟨A2, e2, c2, rfl, -⟩ := NatV.shape (by omega) hvd
  have ge := blk_below hb2 g2
  obtain ⟨sg, hsg⟩ : ∃ sg, (sumS s1 n1 d1 (!s2) n2 d2).1 = sg := ⟨_, rfl⟩
  rw [hsg]
  have HSG := Lib.hid hsg
  obtain ⟨t0, t1, t2⟩ := sets3 ge (.bool sg) (.slice A1 e1 c1) (.slice A2 e2 c2)
  have q1 := hvn.but ge no_dig3 (Nat.le_of_eq t2.symm) (fun k _ hk => t1 k hk)
  have q2 := hvd.but ge no_dig3 (Nat.le_of_eq t2.symm) (fun k _ hk => t1 k hk)
  have hbf := below_trans' hbW hbW.size hb2
  have hbf2 := ((hbf.setCell (p := ⟨w.heap.size + 1 + 1, 0, none⟩) (by simp; omega) (.bool sg)).setCell (p := ⟨w.heap.size + 1 + 1, 1, none⟩) (by simp; omega) (.slice A1 e1 c1)).setCell (p := ⟨w.heap.size + 1 + 1, 2, none⟩) (by simp; omega) (.slice A2 e2 c2)
  obtain ⟨u0, u1, u2⟩ := cells3 t0
  have ce := cells3 ge
  have fe := free_of_block ge
  clear hsg t0 t1 t2 hbf hp hq hp' hq'
  go_wp2_with fail
  exact bodyPost_ret (v := .tuple #[.agg #[.bool sg, .slice A1 e1 c1, .slice A2 e2 c2], .bool true]) (by simp [results, Tryz.results106, go_sem, u0, u1, u2]) rfl ⟨_, rfl, ⟨_, _, by rw [HSG.out], q1, q2⟩, hbf2⟩
end Go.Proofs.YtpligjkbnlfhgaaGreatDoor
