/- Fractions in parts, the program's: products. -/
import Derived.Test.YtpligjkbnlfhgaaGreatDoorNatT
import Derived.Test.YtpligjkbnlfhgaaGreatDoorStrB
import Derived.Test.YtpligjkbnlfhgaaGreatDoorStrC
import Derived.Deep.RegionHeld3
namespace Go.Proofs.YtpligjkbnlfhgaaGreatDoor
open Go.RowKit

/-- A value that reads as a sign and two numbers. -/
def FrP (w : World) (f : Value) (s : Bool) (n d : Nat) : Prop := ∃ vn vd, f = .agg #[.bool s, vn, vd] ∧ NatV 1000000000 w vn n ∧ NatV 1000000000 w vd d
theorem FrP.below {w w' : World} {f : Value} {s : Bool} {n d : Nat} (h : FrP w f s n d) (hb : Below w.heap.size w w') : FrP w' f s n d := by
  obtain ⟨vn, vd, hf, h1, h2⟩ := h
  exact ⟨vn, vd, hf, h1.below hb, h2.below hb⟩

theorem allocs3 (w : World) (a b c : Array Value) (t u s : TypeId) : Below w.heap.size w (((w.alloc (.cells a t)).alloc (.cells b u)).alloc (.cells c s)) ∧ (((w.alloc (.cells a t)).alloc (.cells b u)).alloc (.cells c s)).heap[w.heap.size]? = some (.cells a t (0, 0)) ∧
    (((w.alloc (.cells a t)).alloc (.cells b u)).alloc (.cells c s)).heap[w.heap.size + 1]? = some (.cells b u (0, 0)) ∧ (((w.alloc (.cells a t)).alloc (.cells b u)).alloc (.cells c s)).heap[w.heap.size + 1 + 1]? = some (.cells c s (0, 0)) := by
  refine ⟨(((Below.refl _ _).alloc (Nat.le_refl _) _).alloc (by simp) _).alloc (by simp; omega) _, ?_, ?_, ?_⟩
  · rw [Below.heap_alloc _ _ _ (by simp; omega), Below.heap_alloc _ _ _ (by simp)]; exact heap_alloc_new w _
  · rw [Below.heap_alloc _ _ _ (by simp)]
    have h := heap_alloc_new (w.alloc (.cells a t)) (.cells b u)
    rwa [show (w.alloc (.cells a t)).heap.size = w.heap.size + 1 by simp] at h
  · have h := heap_alloc_new ((w.alloc (.cells a t)).alloc (.cells b u)) (.cells c s)
    rwa [show ((w.alloc (.cells a t)).alloc (.cells b u)).heap.size = w.heap.size + 1 + 1 by simp] at h

theorem blk_below {W w' : World} {b : Nat} {o : Obj} (hb : Below W.heap.size W w') (g : W.heap[b]? = some o) : w'.heap[b]? = some o := by rw [hb.block _ (lt_of_blk g)]; exact g
theorem cells3 {w : World} {g : Nat} {x y z : Value} {t : TypeId} (h : w.heap[g]? = some (.cells #[x, y, z] t (0, 0))) : w.cell? ⟨g, 0, none⟩ = some x ∧ w.cell? ⟨g, 1, none⟩ = some y ∧ w.cell? ⟨g, 2, none⟩ = some z :=
  ⟨cell_of_block h 0, cell_of_block h 1, cell_of_block h 2⟩
theorem c3set {w : World} {g k j : Nat} {x y z u : Value} (h : w.cell? ⟨g, 0, none⟩ = some x ∧ w.cell? ⟨g, 1, none⟩ = some y ∧ w.cell? ⟨g, 2, none⟩ = some z) (hne : g ≠ k) : (w.setCell ⟨k, j, none⟩ u).cell? ⟨g, 0, none⟩ = some x ∧ (w.setCell ⟨k, j, none⟩ u).cell? ⟨g, 1, none⟩ = some y ∧ (w.setCell ⟨k, j, none⟩ u).cell? ⟨g, 2, none⟩ = some z := by
  have e := Below.heap_setCell w ⟨k, j, none⟩ u g hne
  simp only [World.cell?, e]
  exact h
/-- A block that holds no digits is another one than a number's. -/
theorem NatV.but {B : Nat} {w w' : World} {v : Value} {x G : Nat} {cs : Array Value} {t : TypeId} (h : NatV B w v x) (hg : w.heap[G]? = some (.cells cs t (0, 0))) (hn : ∀ (k z : Nat), cs[k]? ≠ some (u32V z)) (hs : w.heap.size ≤ w'.heap.size)
    (hk : ∀ k, k < w.heap.size → k ≠ G → w'.heap[k]? = w.heap[k]?) : NatV B w' v x := by
  obtain ⟨A, n, c, f, hv, hc, hm, hr, hd, hx⟩ := h
  refine ⟨A, n, c, f, hv, hc, hm, fun h0 => ?_, hd, hx⟩
  obtain ⟨b, off, hA, hb, hcell⟩ := hr h0
  have hne : b ≠ G := fun e => by
    subst e
    have := hcell 0 h0
    rw [cell_of_block hg] at this
    exact hn _ _ this
  refine ⟨b, off, hA, by omega, fun i hi => ?_⟩
  rw [← hcell i hi]
  simp only [World.cell?, hk b hb hne]
/-- Three cells of a block are set. -/
theorem sets3 {w : World} {G : Nat} {a0 a1 a2 : Value} {t : TypeId} (hg : w.heap[G]? = some (.cells #[a0, a1, a2] t (0, 0))) (u0 u1 u2 : Value) :
    (((w.setCell ⟨G, 0, none⟩ u0).setCell ⟨G, 1, none⟩ u1).setCell ⟨G, 2, none⟩ u2).heap[G]? = some (.cells #[u0, u1, u2] t (0, 0)) ∧ (∀ k, k ≠ G → (((w.setCell ⟨G, 0, none⟩ u0).setCell ⟨G, 1, none⟩ u1).setCell ⟨G, 2, none⟩ u2).heap[k]? = w.heap[k]?) ∧
    (((w.setCell ⟨G, 0, none⟩ u0).setCell ⟨G, 1, none⟩ u1).setCell ⟨G, 2, none⟩ u2).heap.size = w.heap.size := by
  refine ⟨?_, fun k hk => ?_, by simp [World.setCell]⟩
  · exact block_set (block_set (block_set hg 0 u0) 1 u1) 2 u2
  · rw [Below.heap_setCell _ _ _ _ hk, Below.heap_setCell _ _ _ _ hk, Below.heap_setCell _ _ _ _ hk]
theorem no_dig3 {b : Bool} {A1 A2 : Option Addr} {n1 c1 n2 c2 : Nat} : ∀ (k z : Nat), (#[Value.bool b, .slice A1 n1 c1, .slice A2 n2 c2] : Array Value)[k]? ≠ some (u32V z) := fun k z h => by
  match k, h with
  | 0, h => cases h
  | 1, h => cases h
  | 2, h => cases h
/-- Two fractions in memory. -/
def S6 (a b : Nat) (x0 x1 x2 y0 y1 y2 : Value) (w : World) : Prop := (w.cell? ⟨a, 0, none⟩ = some x0 ∧ w.cell? ⟨a, 1, none⟩ = some x1 ∧ w.cell? ⟨a, 2, none⟩ = some x2) ∧ (w.cell? ⟨b, 0, none⟩ = some y0 ∧ w.cell? ⟨b, 1, none⟩ = some y1 ∧ w.cell? ⟨b, 2, none⟩ = some y2)

set_option maxRecDepth 100000 in
set_option maxHeartbeats 4000000 in
theorem mul74 (K : Nat) (x y : Value) (s1 s2 : Bool) (n1 d1 n2 d2 : Nat) (w : World) (hK : K ≤ 100000) (a1 : Sm K n1) (a2 : Sm K d1) (a3 : Sm K n2) (a4 : Sm K d2) (h1 : FrP w x s1 n1 d1) (h2 : FrP w y s2 n2 d2) :
    Calls Tryz.prog 125 #[x, y] w fun e w' => ∃ f, e = .returned (.tuple #[f, .bool true]) ∧ FrP w' f (s1 != s2) (n1 * n2) (d1 * d2) ∧ Below w.heap.size w w' := by
  obtain ⟨p, q, rfl, hp, hq⟩ := h1
  obtain ⟨p', q', rfl, hp', hq'⟩ := h2
  obtain ⟨hbW, g0, g1, g2⟩ := allocs3 w #[.bool s1, p, q] #[.bool s2, p', q'] #[.bool false, .slice none 0 0, .slice none 0 0] 116 116 116
  go_enter Tryz.func125, Tryz.ntmps125
  go_wp2_with fail
  generalize ((w.alloc (.cells #[.bool s1, p, q] 116)).alloc (.cells #[.bool s2, p', q'] 116)).alloc (.cells #[.bool false, .slice none 0 0, .slice none 0 0] 116) = W at *
  have hsz : w.heap.size + 1 + 1 < W.heap.size := lt_of_blk g2
  have hpW := hp.below hbW
  have hqW := hq.below hbW
  have hpW' := hp'.below hbW
  have hqW' := hq'.below hbW
  have hbd : Below W.heap.size W W.drew := (Below.refl _ _).drew
  have k0 := cells3 (blk_below hbd g0)
  have k1 := cells3 (blk_below hbd g1)
  clear hp hq hp' hq'
  go_region_held3 (fun w' => (w'.cell? ⟨w.heap.size, 0, none⟩ = some (.bool s1) ∧ w'.cell? ⟨w.heap.size, 1, none⟩ = some p ∧ w'.cell? ⟨w.heap.size, 2, none⟩ = some q) ∧ (w'.cell? ⟨w.heap.size + 1, 0, none⟩ = some (.bool s2) ∧ w'.cell? ⟨w.heap.size + 1, 1, none⟩ = some p' ∧ w'.cell? ⟨w.heap.size + 1, 2, none⟩ = some q'))
    (first | exact ⟨c3set (c3set (c3set m0 (by omega)) (by omega)) (by omega), c3set (c3set (c3set m1 (by omega)) (by omega)) (by omega)⟩ | exact ⟨m0, m1⟩ | exact ⟨l0, l1⟩ | exact ⟨k0, k1⟩)
    (first
      | (go_at_call_of 110 p; with_reducible refine (mulNat61 K p p' n1 n2 _ (by omega) a1 a3 (hpW.below hbd) (hpW'.below hbd)).mono ?_; rintro e w1 ⟨vn, rfl, hvn, hb1⟩; obtain ⟨A1, e1, c1, rfl, -⟩ := NatV.shape (by omega) hvn; have hB1 := below_trans' hbd (Nat.le_refl _) hb1; have l0 := cells3 (blk_below hB1 g0); have l1 := cells3 (blk_below hB1 g1))
      | (go_at_call_of 110 q; with_reducible refine (mulNat61 K q q' d1 d2 _ (by omega) a2 a4 (hqW.below hB1) (hqW'.below hB1)).mono ?_; rintro e w2 ⟨vd, rfl, hvd, hb2⟩; obtain ⟨A2, e2, c2, rfl, -⟩ := NatV.shape (by omega) hvd; have hB2 := below_trans' hB1 hB1.size hb2; have m0 := cells3 (blk_below hB2 g0); have m1 := cells3 (blk_below hB2 g1); have m2 := cells3 (blk_below hB2 g2); have m3 := free_of_block (blk_below hB2 g2)))
  obtain ⟨t0, t1, t2⟩ := sets3 (blk_below hB2 g2) (.bool (!s1 == s2)) (.slice A1 e1 c1) (.slice A2 e2 c2)
  have hvn' := hvn.below hb2
  have q1 := hvn'.but (blk_below hB2 g2) no_dig3 (Nat.le_of_eq t2.symm) (fun k _ hk => t1 k hk)
  have q2 := hvd.but (blk_below hB2 g2) no_dig3 (Nat.le_of_eq t2.symm) (fun k _ hk => t1 k hk)
  have hbf := (hbW.trans (hB2.mono hbW.size))
  have hbf2 : Below w.heap.size w (((w2.setCell ⟨w.heap.size + 1 + 1, 0, none⟩ (.bool (!s1 == s2))).setCell ⟨w.heap.size + 1 + 1, 1, none⟩ (.slice A1 e1 c1)).setCell ⟨w.heap.size + 1 + 1, 2, none⟩ (.slice A2 e2 c2)) :=
    ((hbf.setCell (p := ⟨w.heap.size + 1 + 1, 0, none⟩) (by simp; omega) _).setCell (p := ⟨w.heap.size + 1 + 1, 1, none⟩) (by simp; omega) _).setCell (p := ⟨w.heap.size + 1 + 1, 2, none⟩) (by simp; omega) _
  obtain ⟨u0, u1, u2⟩ := cells3 t0
  clear m0 m1 m2 m3 l0 l1 k0 k1
  generalize ((w2.setCell ⟨w.heap.size + 1 + 1, 0, none⟩ (.bool (!s1 == s2))).setCell ⟨w.heap.size + 1 + 1, 1, none⟩ (.slice A1 e1 c1)).setCell ⟨w.heap.size + 1 + 1, 2, none⟩ (.slice A2 e2 c2) = w5 at *
  go_wp2_with fail
  exact bodyPost_ret (v := .tuple #[.agg #[.bool (!s1 == s2), .slice A1 e1 c1, .slice A2 e2 c2], .bool true]) (by simp [results, Tryz.results125, go_sem, u0, u1, u2]) rfl ⟨_, rfl, ⟨_, _, rfl, q1, q2⟩, hbf2⟩
end Go.Proofs.YtpligjkbnlfhgaaGreatDoor
