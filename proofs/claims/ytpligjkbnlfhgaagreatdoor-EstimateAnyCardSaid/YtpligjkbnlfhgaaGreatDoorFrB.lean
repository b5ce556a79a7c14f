/- Fractions in parts, the program's: sums. -/
import Derived.Test.YtpligjkbnlfhgaaGreatDoorFrA
import Derived.Test.YtpligjkbnlfhgaaGreatDoorPl
import Derived.Deep.DeepCutAuto
namespace Go.Proofs.YtpligjkbnlfhgaaGreatDoor
open Go.RowKit

def sumS (s1 : Bool) (n1 d1 : Nat) (s2 : Bool) (n2 d2 : Nat) : Bool × Nat :=
  if s1 = s2 then (s1, n1 * d2 + n2 * d1) else if n2 * d1 ≤ n1 * d2 then (s1, n1 * d2 - n2 * d1) else (s2, n2 * d1 - n1 * d2)

abbrev zF : Array Value := #[.bool false, .slice none 0 0, .slice none 0 0]

set_option maxRecDepth 100000 in
set_option maxHeartbeats 8000000 in
theorem sum77 (K : Nat) (x y : Value) (s1 s2 : Bool) (n1 d1 n2 d2 : Nat) (w : World) (hK : K ≤ 40000) (hK3 : 30 ≤ K) (a1 : Sm K n1) (a2 : Sm K d1) (a3 : Sm K n2) (a4 : Sm K d2) (h1 : FrP w x s1 n1 d1) (h2 : FrP w y s2 n2 d2) :
    Calls Tryz.prog 107 #[x, y] w fun e w' => ∃ f, e = .returned f ∧ FrP w' f (sumS s1 n1 d1 s2 n2 d2).1 (sumS s1 n1 d1 s2 n2 d2).2 (d1 * d2) ∧ Below w.heap.size w w' := by
  obtain ⟨p, q, rfl, hp, hq⟩ := h1
  obtain ⟨p', q', rfl, hp', hq'⟩ := h2
  obtain ⟨hbW, g0, g1, g2⟩ := allocs3 w #[.bool s1, p, q] #[.bool s2, p', q'] #[.bool false, .slice none 0 0, .slice none 0 0] 116 116 116
  go_enter Tryz.func107, Tryz.ntmps107
  go_wp2_with fail
  generalize ((w.alloc (.cells #[.bool s1, p, q] 116)).alloc (.cells #[.bool s2, p', q'] 116)).alloc (.cells #[.bool false, .slice none 0 0, .slice none 0 0] 116) = W at *
  have hsz : w.heap.size + 1 + 1 < W.heap.size := lt_of_blk g2
  have hpW := hp.below hbW
  have hqW := hq.below hbW
  have hpW' := hp'.below hbW
  have hqW' := hq'.below hbW
  have hbd : Below W.heap.size W W.drew := (Below.refl _ _).drew
  have k0 := cells3 (blk_below hbd g0)
  have k1 := cells3 (blk_below hbd g1)
  clear hp hq hp' hq'
  go_region_held3 (fun w' => (w'.cell? ⟨w.heap.size, 0, none⟩ = some (.bool s1) ∧ w'.cell? ⟨w.heap.size, 1, none⟩ = some p ∧ w'.cell? ⟨w.heap.size, 2, none⟩ = some q) ∧ (w'.cell? ⟨w.heap.size + 1, 0, none⟩ = some (.bool s2) ∧ w'.cell? ⟨w.heap.size + 1, 1, none⟩ = some p' ∧ w'.cell? ⟨w.heap.size + 1, 2, none⟩ = some q'))
    (first | with_reducible exact ⟨m0, m1⟩ | with_reducible exact ⟨l0, l1⟩ | with_reducible exact ⟨k0, k1⟩)
    (first
      | (go_at_call_of 110 p; with_reducible refine (mulNat61 K p q' n1 d2 _ (by omega) a1 a4 (hpW.below hbd) (hqW'.below hbd)).mono ?_; rintro e w1 ⟨vx, rfl, hvx, hb1⟩; obtain ⟨A1, e1, c1, rfl, -⟩ := NatV.shape (by omega) hvx; have hB1 := below_trans' hbd (Nat.le_refl _) hb1; have l0 := cells3 (blk_below hB1 g0); have l1 := cells3 (blk_below hB1 g1))
      | (go_at_call_of 110 p'; with_reducible refine (mulNat61 K p' q n2 d1 _ (by omega) a3 a2 (hpW'.below hB1) (hqW.below hB1)).mono ?_; rintro e w2 ⟨vy, rfl, hvy, hb2⟩; obtain ⟨A2, e2, c2, rfl, -⟩ := NatV.shape (by omega) hvy; have hB2 := below_trans' hB1 hB1.size hb2; have m0 := cells3 (blk_below hB2 g0); have m1 := cells3 (blk_below hB2 g1)))
  have hvx2 := hvx.below hb2
  have hsx : Sm (K + K) (n1 * d2) := a1.mul a4
  have hsy : Sm (K + K) (n2 * d1) := a3.mul a2
  clear hb1 hb2 hB1 hvx l0 l1 k0 k1 m0 m1
  have hbd2 : Below w2.heap.size w2 w2.drew := (Below.refl _ _).drew
  have hB2d := below_trans' hB2 hB2.size hbd2
  have k0 := cells3 (blk_below hB2d g0)
  have k1 := cells3 (blk_below hB2d g1)
  have hbda : Below w2.heap.size w2 (w2.alloc (.cells #[.bool false, .slice none 0 0, .slice none 0 0] 116)).drew := ((Below.refl _ _).alloc (Nat.le_refl _) _).drew
  have hB2a := below_trans' hB2 hB2.size hbda
  have ka0 := cells3 (blk_below hB2a g0)
  have ka1 := cells3 (blk_below hB2a g1)
  have hW2 := hB2.size
  have hnew : (w2.alloc (.cells #[.bool false, .slice none 0 0, .slice none 0 0] 116)).drew.heap[w2.heap.size]? = some (.cells #[.bool false, .slice none 0 0, .slice none 0 0] 116 (0, 0)) := heap_alloc_new w2 _
  have hnw := lt_of_blk hnew
  go_wp2_with fail
  go_upto_region 2 with fail
  go_cut [7] (fun s7 wx => ∃ (g : Nat) (A3 : Option Addr) (e3 c3 : Nat), s7 = .pointer (some ⟨g, 0, none⟩) ∧ w.heap.size + 1 + 1 < g ∧ W.heap.size ≤ g ∧ wx.heap[g]? = some (.cells #[.bool s1, .slice none 0 0, .slice A3 e3 c3] 116 (0, 0)) ∧ NatV 1000000000 wx (.slice A3 e3 c3) (d1 * d2) ∧ NatV 1000000000 wx (.slice A1 e1 c1) (n1 * d2) ∧ NatV 1000000000 wx (.slice A2 e2 c2) (n2 * d1) ∧ Below W.heap.size W wx)
  case first =>
    go_region_held3 (fun w' => (w'.cell? ⟨w.heap.size, 0, none⟩ = some (.bool s1) ∧ w'.cell? ⟨w.heap.size, 1, none⟩ = some p ∧ w'.cell? ⟨w.heap.size, 2, none⟩ = some q) ∧ (w'.cell? ⟨w.heap.size + 1, 0, none⟩ = some (.bool s2) ∧ w'.cell? ⟨w.heap.size + 1, 1, none⟩ = some p' ∧ w'.cell? ⟨w.heap.size + 1, 2, none⟩ = some q'))
      (first | with_reducible exact ⟨l0, l1⟩ | with_reducible exact ⟨ka0, ka1⟩ | with_reducible exact ⟨k0, k1⟩ | with_reducible exact ⟨c3set (c3set (c3set l0 (by omega)) (by omega)) (by omega), c3set (c3set (c3set l1 (by omega)) (by omega)) (by omega)⟩ | with_reducible exact ⟨cells3 (blk_below (hB3.alloc hB3.size _) g0), cells3 (blk_below (hB3.alloc hB3.size _) g1)⟩)
      (first
        | (go_at_call_of 110 q; with_reducible refine (mulNat61 K q q' d1 d2 _ (by omega) a2 a4 (hqW.below hB2d) (hqW'.below hB2d)).mono ?_; rintro e w3 ⟨vd, rfl, hvd, hb3⟩; obtain ⟨A3, e3, c3, rfl, -⟩ := NatV.shape (by omega) hvd; have hB3 := below_trans' hB2d hB2d.size hb3; have l0 := cells3 (blk_below hB3 g0); have l1 := cells3 (blk_below hB3 g1))
        | (go_at_call_of 110 q; with_reducible refine (mulNat61 K q q' d1 d2 _ (by omega) a2 a4 (hqW.below hB2a) (hqW'.below hB2a)).mono ?_; rintro e w3 ⟨vd, rfl, hvd, hb3⟩; obtain ⟨A3, e3, c3, rfl, -⟩ := NatV.shape (by omega) hvd; have hB3 := below_trans' hB2a hB2a.size hb3; have l0 := cells3 (blk_below hB3 g0); have l1 := cells3 (blk_below hB3 g1); have n3 := blk_below hb3 hnew; have n0 := cells3 n3; have n1' := free_of_block n3))
    · have hvx3 := (hvx2.below hbd2).below hb3
      have hvy3 := (hvy.below hbd2).below hb3
      have hal := heap_alloc_new w3 (.cells #[.bool s1, .slice none 0 0, .slice A3 e3 c3] 116)
      have hba : Below w3.heap.size w3 (w3.alloc (.cells #[.bool s1, .slice none 0 0, .slice A3 e3 c3] 116)) := (Below.refl _ _).alloc (Nat.le_refl _) _
      have hB4 := below_trans' hB3 hB3.size hba
      have h3s := hB3.size
      go_wp2_with fail
      go_meet
      case rel => exact ⟨w3.heap.size, A3, e3, c3, rfl, by omega, by omega, hal, hvd.below hba, hvx3.below hba, hvy3.below hba, hB4⟩
    · have hvx3 := (hvx2.below hbda).below hb3
      have hvy3 := (hvy.below hbda).below hb3
      obtain ⟨t0, t1, t2⟩ := sets3 n3 (.bool s1) (.slice none 0 0) (.slice A3 e3 c3)
      have q1 := hvd.but n3 no_dig3 (Nat.le_of_eq t2.symm) (fun k _ hk => t1 k hk)
      have q2 := hvx3.but n3 no_dig3 (Nat.le_of_eq t2.symm) (fun k _ hk => t1 k hk)
      have q3 := hvy3.but n3 no_dig3 (Nat.le_of_eq t2.symm) (fun k _ hk => t1 k hk)
      have hB4 := ((hB3.setCell (p := ⟨w2.heap.size, 0, none⟩) hW2 (.bool s1)).setCell (p := ⟨w2.heap.size, 1, none⟩) hW2 (.slice none 0 0)).setCell (p := ⟨w2.heap.size, 2, none⟩) hW2 (.slice A3 e3 c3)
      go_wp2_with fail
      go_meet
      case rel => exact ⟨w2.heap.size, A3, e3, c3, rfl, by omega, hW2, t0, q1, q2, q3, hB4⟩
  case rest =>
    obtain ⟨g, A3, e3, c3, rfl, hg2, hgW, hgb, hvd, hvx, hvy, hB⟩ := hcut
    clear hbd2 hB2d k0 k1 hbda hB2a ka0 ka1 hnew hnw hB2 hvx2 hpW hqW hpW' hqW' hW2
    by_cases hs : s1 = s2
    · have hS : sumS s1 n1 d1 s2 n2 d2 = (s1, n1 * d2 + n2 * d1) := by simp [sumS, hs]
      have ds : (s1 == s2) = true := by simp [hs]
      have k0 := cells3 (blk_below hB g0)
      have k1 := cells3 (blk_below hB g1)
      have HS := Lib.hid hS
      clear hs hS
      go_wp2_with fail
      refine (addNat63 (K + K) _ _ _ _ wc (by omega) hsx hsy hvx hvy).mono ?_
      rintro e w4 ⟨vn, rfl, hvn, hb4⟩
      obtain ⟨A5, e5, c5, rfl, -⟩ := NatV.shape (by omega) hvn
      have g4 := blk_below hb4 hgb
      have hvd4 := hvd.below hb4
      have hB4 := below_trans' hB hB.size hb4
      have c4 := cells3 g4
      have f4 := free_of_block g4
      have g5 : (w4.setCell ⟨g, 1, none⟩ (.slice A5 e5 c5)).heap[g]? = some (.cells #[.bool s1, .slice A5 e5 c5, .slice A3 e3 c3] 116 (0, 0)) := block_set g4 1 _
      have hk5 : ∀ k, k < w4.heap.size → k ≠ g → (w4.setCell ⟨g, 1, none⟩ (.slice A5 e5 c5)).heap[k]? = w4.heap[k]? := fun k _ hk => Below.heap_setCell _ _ _ _ hk
      have hz5 : (w4.setCell ⟨g, 1, none⟩ (.slice A5 e5 c5)).heap.size = w4.heap.size := by simp [World.setCell]
      have r1 := hvn.but g4 no_dig3 (Nat.le_of_eq hz5.symm) hk5
      have r2 := hvd4.but g4 no_dig3 (Nat.le_of_eq hz5.symm) hk5
      have hB5 := hB4.setCell (p := ⟨g, 1, none⟩) hgW (.slice A5 e5 c5)
      have cc5 := cells3 g5
      have ge := blk_below hB5 g2
      have ce := cells3 ge
      have fe := free_of_block ge
      obtain ⟨t0, t1, t2⟩ := sets3 ge (.bool s1) (.slice A5 e5 c5) (.slice A3 e3 c3)
      have q1 := r1.but ge no_dig3 (Nat.le_of_eq t2.symm) (fun k _ hk => t1 k hk)
      have q2 := r2.but ge no_dig3 (Nat.le_of_eq t2.symm) (fun k _ hk => t1 k hk)
      have hbf := hbW.trans (hB5.mono hbW.size)
      have hbf2 := ((hbf.setCell (p := ⟨w.heap.size + 1 + 1, 0, none⟩) (by simp; omega) (.bool s1)).setCell (p := ⟨w.heap.size + 1 + 1, 1, none⟩) (by simp; omega) (.slice A5 e5 c5)).setCell (p := ⟨w.heap.size + 1 + 1, 2, none⟩) (by simp; omega) (.slice A3 e3 c3)
      obtain ⟨u0, u1, u2⟩ := cells3 t0
      clear hz5 hk5 hB4 hB5 t0 t1 t2 r1 r2 hbf k0 k1
      go_wp2_with fail
      exact bodyPost_ret (v := .agg #[.bool s1, .slice A5 e5 c5, .slice A3 e3 c3]) (by simp [results, Tryz.results107, go_sem, u0, u1, u2]) rfl ⟨_, rfl, by rw [HS.out]; exact ⟨_, _, rfl, q1, q2⟩, hbf2⟩
    · have ds : (s1 == s2) = false := by simp [hs]
      have k0 := cells3 (blk_below hB g0)
      have k1 := cells3 (blk_below hB g1)
      have hcmp := cmpNat64 1000000000 (by omega) _ _ _ _ wc hvx hvy
      obtain ⟨qc, hqc⟩ : ∃ qc : Int, cmpI (n1 * d2) (n2 * d1) = qc := ⟨_, rfl⟩
      rw [hqc] at hcmp
      by_cases hle : n2 * d1 ≤ n1 * d2
      · have hS : sumS s1 n1 d1 s2 n2 d2 = (s1, n1 * d2 - n2 * d1) := by simp [sumS, hs, hle]
        have dq : decide (0 ≤ qc) = true := by have := cmpI_ge hle; rw [hqc] at this; simpa using this
        have HS := Lib.hid hS
        have HLE := Lib.hid hle
        clear hs hS hqc hle
        go_wp2_with fail
        refine hcmp.mono ?_
        rintro e _ ⟨rfl, kk, rfl⟩
        have hbk : Below wc.heap.size wc (wc.drewN kk) := below_drewN (Below.refl _ _) kk
        replace hvx := hvx.below hbk
        replace hvy := hvy.below hbk
        replace hvd := hvd.below hbk
        replace hB := below_trans' hB hB.size hbk
        replace hgb := blk_below hbk hgb
        clear hbk hcmp k0 k1
        have k0 := cells3 (blk_below hB g0)
        have k1 := cells3 (blk_below hB g1)
        go_wp2_with fail
        refine (subNat128 (K + K) _ _ _ _ _ (by omega) hsx HLE.out hvx hvy).mono ?_
        rintro e w4 ⟨vn, rfl, hvn, hb4⟩
        obtain ⟨A5, e5, c5, rfl, -⟩ := NatV.shape (by omega) hvn
        have g4 := blk_below hb4 hgb
        have hvd4 := hvd.below hb4
        have hB4 := below_trans' hB hB.size hb4
        have c4 := cells3 g4
        have f4 := free_of_block g4
        have g5 : (w4.setCell ⟨g, 1, none⟩ (.slice A5 e5 c5)).heap[g]? = some (.cells #[.bool s1, .slice A5 e5 c5, .slice A3 e3 c3] 116 (0, 0)) := block_set g4 1 _
        have hk5 : ∀ k, k < w4.heap.size → k ≠ g → (w4.setCell ⟨g, 1, none⟩ (.slice A5 e5 c5)).heap[k]? = w4.heap[k]? := fun k _ hk => Below.heap_setCell _ _ _ _ hk
        have hz5 : (w4.setCell ⟨g, 1, none⟩ (.slice A5 e5 c5)).heap.size = w4.heap.size := by simp [World.setCell]
        have r1 := hvn.but g4 no_dig3 (Nat.le_of_eq hz5.symm) hk5
        have r2 := hvd4.but g4 no_dig3 (Nat.le_of_eq hz5.symm) hk5
        have hB5 := hB4.setCell (p := ⟨g, 1, none⟩) hgW (.slice A5 e5 c5)
        have cc5 := cells3 g5
        have ge := blk_below hB5 g2
        have ce := cells3 ge
        have fe := free_of_block ge
        obtain ⟨t0, t1, t2⟩ := sets3 ge (.bool s1) (.slice A5 e5 c5) (.slice A3 e3 c3)
        have q1 := r1.but ge no_dig3 (Nat.le_of_eq t2.symm) (fun k _ hk => t1 k hk)
        have q2 := r2.but ge no_dig3 (Nat.le_of_eq t2.symm) (fun k _ hk => t1 k hk)
        have hbf := hbW.trans (hB5.mono hbW.size)
        have hbf2 := ((hbf.setCell (p := ⟨w.heap.size + 1 + 1, 0, none⟩) (by simp; omega) (.bool s1)).setCell (p := ⟨w.heap.size + 1 + 1, 1, none⟩) (by simp; omega) (.slice A5 e5 c5)).setCell (p := ⟨w.heap.size + 1 + 1, 2, none⟩) (by simp; omega) (.slice A3 e3 c3)
        obtain ⟨u0, u1, u2⟩ := cells3 t0
        clear hz5 hk5 hB4 hB5 t0 t1 t2 r1 r2 hbf k0 k1
        go_wp2_with fail
        exact bodyPost_ret (v := .agg #[.bool s1, .slice A5 e5 c5, .slice A3 e3 c3]) (by simp [results, Tryz.results107, go_sem, u0, u1, u2]) rfl ⟨_, rfl, by rw [HS.out]; exact ⟨_, _, rfl, q1, q2⟩, hbf2⟩
      · have hS : sumS s1 n1 d1 s2 n2 d2 = (s2, n2 * d1 - n1 * d2) := by simp [sumS, hs, hle]
        have dq : decide (0 ≤ qc) = false := by have := cmpI_lt (show n1 * d2 < n2 * d1 by omega); rw [hqc] at this; subst this; rfl
        have HS := Lib.hid hS
        have HLE := Lib.hid (show n1 * d2 ≤ n2 * d1 by omega)
        clear hs hS hqc hle
        go_wp2_with fail
        refine hcmp.mono ?_
        rintro e _ ⟨rfl, kk, rfl⟩
        have hbk : Below wc.heap.size wc (wc.drewN (kk + 1)) := below_drewN (Below.refl _ _) (kk + 1)
        replace hvx := hvx.below hbk
        replace hvy := hvy.below hbk
        replace hvd := hvd.below hbk
        replace hB := below_trans' hB hB.size hbk
        replace hgb := blk_below hbk hgb
        clear hbk hcmp k0 k1
        have k0 := cells3 (blk_below hB g0)
        have k1 := cells3 (blk_below hB g1)
        go_wp2_with fail
        go_region_held3 (fun w' => w'.cell? ⟨w.heap.size + 1, 0, none⟩ = some (.bool s2))
          (first | with_reducible exact k1.1 | with_reducible exact l1.1 | with_reducible exact (c3set l1 (by omega)).1 | with_reducible exact (c3set (c3set l1 (by omega)) (by omega)).1 | exact k1.1)
          ((go_at_call 130; with_reducible refine (subNat128 (K + K) _ _ _ _ _ (by omega) hsy HLE.out hvy hvx).mono ?_; rintro e w4 ⟨vn, rfl, hvn, hb4⟩; obtain ⟨A5, e5, c5, rfl, -⟩ := NatV.shape (by omega) hvn; have hB4 := below_trans' hB hB.size hb4; have l1 := cells3 (blk_below hB4 g1); have g4 := blk_below hb4 hgb; have c4 := cells3 g4; have f4 := free_of_block g4))
        have hvd4 := hvd.below hb4
        have g5 : ((w4.setCell ⟨g, 0, none⟩ (.bool s2)).setCell ⟨g, 1, none⟩ (.slice A5 e5 c5)).heap[g]? = some (.cells #[.bool s2, .slice A5 e5 c5, .slice A3 e3 c3] 116 (0, 0)) := block_set (block_set g4 0 _) 1 _
        have hk5 : ∀ k, k < w4.heap.size → k ≠ g → ((w4.setCell ⟨g, 0, none⟩ (.bool s2)).setCell ⟨g, 1, none⟩ (.slice A5 e5 c5)).heap[k]? = w4.heap[k]? := fun k _ hk => by rw [Below.heap_setCell _ _ _ _ hk, Below.heap_setCell _ _ _ _ hk]
        have hz5 : ((w4.setCell ⟨g, 0, none⟩ (.bool s2)).setCell ⟨g, 1, none⟩ (.slice A5 e5 c5)).heap.size = w4.heap.size := by simp [World.setCell]
        have r1 := hvn.but g4 no_dig3 (Nat.le_of_eq hz5.symm) hk5
        have r2 := hvd4.but g4 no_dig3 (Nat.le_of_eq hz5.symm) hk5
        have hB5 := (hB4.setCell (p := ⟨g, 0, none⟩) hgW (.bool s2)).setCell (p := ⟨g, 1, none⟩) hgW (.slice A5 e5 c5)
        generalize (w4.setCell ⟨g, 0, none⟩ (.bool s2)).setCell ⟨g, 1, none⟩ (.slice A5 e5 c5) = w5 at *
        have cc5 := cells3 g5
        have ge := blk_below hB5 g2
        have ce := cells3 ge
        have fe := free_of_block ge
        obtain ⟨t0, t1, t2⟩ := sets3 ge (.bool s2) (.slice A5 e5 c5) (.slice A3 e3 c3)
        have q1 := r1.but ge no_dig3 (Nat.le_of_eq t2.symm) (fun k _ hk => t1 k hk)
        have q2 := r2.but ge no_dig3 (Nat.le_of_eq t2.symm) (fun k _ hk => t1 k hk)
        have hbf := hbW.trans (hB5.mono hbW.size)
        have hbf2 := ((hbf.setCell (p := ⟨w.heap.size + 1 + 1, 0, none⟩) (by simp; omega) (.bool s2)).setCell (p := ⟨w.heap.size + 1 + 1, 1, none⟩) (by simp; omega) (.slice A5 e5 c5)).setCell (p := ⟨w.heap.size + 1 + 1, 2, none⟩) (by simp; omega) (.slice A3 e3 c3)
        obtain ⟨u0, u1, u2⟩ := cells3 t0
        clear hz5 hk5 hB4 hB5 t0 t1 t2 r1 r2 hbf k0 k1 l1 c4 f4 g4
        go_wp2_with fail
        exact bodyPost_ret (v := .agg #[.bool s2, .slice A5 e5 c5, .slice A3 e3 c3]) (by simp [results, Tryz.results107, go_sem, u0, u1, u2]) rfl ⟨_, rfl, by rw [HS.out]; exact ⟨_, _, rfl, q1, q2⟩, hbf2⟩

/-- The sum's value. -/
theorem sum_val {s1 s2 : Bool} {n1 d1 n2 d2 : Nat} (h1 : d1 ≠ 0) (h2 : d2 ≠ 0) : ratP (sumS s1 n1 d1 s2 n2 d2).1 (sumS s1 n1 d1 s2 n2 d2).2 (d1 * d2) = ratP s1 n1 d1 + ratP s2 n2 d2 := by
  unfold sumS
  split
  · subst_vars; exact (ratP_add_same h1 h2).symm
  · have : s2 = !s1 := by revert s1 s2; decide
    subst this
    split
    · exact (ratP_add_ge h1 h2 (by assumption)).symm
    · exact (ratP_add_lt h1 h2 (by omega)).symm
end Go.Proofs.YtpligjkbnlfhgaaGreatDoor
