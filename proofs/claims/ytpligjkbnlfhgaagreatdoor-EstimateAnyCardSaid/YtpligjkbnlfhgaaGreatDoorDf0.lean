/- calc's methods of chapter 38 for any fractions: a result that is not there marks the record. No statement is proved here. -/
import Derived.Test.YtpligjkbnlfhgaaGreatDoorEst2
import Derived.Test.YtpligjkbnlfhgaaGreatDoorEstW
namespace Go.Proofs.YtpligjkbnlfhgaaGreatDoor
open Go.RowKit

/-- A block that holds one mark. -/
def Flag (t : TypeId) (g : Nat) (b : Bool) (w : World) : Prop := w.heap[g]? = some (.cells #[.bool b] t (0, 0))
theorem grown_below {w w' : World} (h : Below w.heap.size w w') (g : Nat) : w.grownBy w' (some g) := ⟨h.os, h.tape, h.output, h.size, fun k hk _ => h.block k hk⟩
theorem grown_trans {a b c : World} {g : Nat} (h : a.grownBy b (some g)) (k : b.grownBy c (some g)) : a.grownBy c (some g) :=
  ⟨k.os.trans h.os, k.tape.trans h.tape, k.output.trans h.output, Nat.le_trans h.size k.size, fun i hi hn => (k.block i (Nat.lt_of_lt_of_le hi h.size) hn).trans (h.block i hi hn)⟩
theorem blk_grown {w w' : World} {g x : Nat} {o : Obj} (h : w.grownBy w' (some g)) (hb : w.heap[x]? = some o) (hne : x ≠ g) : w'.heap[x]? = some o :=
  (h.block x (lt_of_blk hb) (fun e => by injection e with e; exact hne e)).trans hb
theorem below_grown {B g : Nat} {a w w' : World} (h : Below B a w) (hg : w.grownBy w' (some g)) (hB : B ≤ w.heap.size) (hr : B ≤ g) : Below B a w' :=
  h.grown hg hB (fun k hk => by injection hk with hk; omega)
theorem grown_set {a w : World} {g : Nat} (h : a.grownBy w (some g)) {p : Addr} (hp : p.block = g ∨ a.heap.size ≤ p.block) (u : Value) : a.grownBy (w.setCell p u) (some g) := only_setCell h hp u
theorem grown_set2 {a w : World} {g z : Nat} (h : a.grownBy w (some g)) (hp : a.heap.size ≤ z) (u v : Value) : a.grownBy ((w.setCell ⟨z, 0, none⟩ u).setCell ⟨z, 1, none⟩ v) (some g) := grown_set (grown_set h (.inr hp) u) (.inr hp) v
theorem Flag.below {t : TypeId} {g : Nat} {b : Bool} {w w' : World} (h : Flag t g b w) (hb : Below w.heap.size w w') : Flag t g b w' := blk_below hb h
theorem Flag.lt {t : TypeId} {g : Nat} {b : Bool} {w : World} (h : Flag t g b w) : g < w.heap.size := lt_of_blk h
theorem Flag.put2 {t : TypeId} {g z : Nat} {b : Bool} {w : World} (h : Flag t g b w) (hne : g ≠ z) (u v : Value) : Flag t g b ((w.setCell ⟨z, 0, none⟩ u).setCell ⟨z, 1, none⟩ v) :=
  (Below.heap_setCell _ _ _ _ hne).trans ((Below.heap_setCell _ _ _ _ hne).trans h)
theorem Flag.set {t : TypeId} {g : Nat} {b : Bool} {w : World} (h : Flag t g b w) (c : Bool) : Flag t g c (w.setCell ⟨g, 0, none⟩ (.bool c)) := block_set h 0 (.bool c)

set_option maxRecDepth 100000 in
set_option maxHeartbeats 2000000 in
theorem try70f (g : Nat) (b ok : Bool) (A B : ByteArray) (w : World) (h : Flag 64 g b w) :
    Calls Tryz.prog 70 #[.pointer (some ⟨g, 0, none⟩), .agg #[.string A, .string B], .bool ok] w fun e w' => e = .returned (.agg #[.string A, .string B]) ∧ w.grownBy w' (some g) ∧ Flag 64 g (b || !ok) w' := by
  cases ok with
  | true =>
    refine (try131 _ A B w).mono ?_
    rintro e w' ⟨rfl, hb⟩
    exact ⟨rfl, grown_below hb g, by simpa using h.below hb⟩
  | false =>
    have hlt := h.lt
    have fg := free_of_block h
    have cg := cell1 h
    have hF := h.set true
    have hbW := (allocs2' (w.setCell ⟨g, 0, none⟩ (.bool true)) #[.string A, .string B] #[.string A, .string B] 26 26).1
    have hR := grown_trans (grown_set (g := g) (p := ⟨g, 0, none⟩) (only_refl w _) (.inl rfl) (.bool true)) (grown_below hbW g)
    have hFR := hF.below hbW
    clear h hbW hF
    go_enter Tryz.func70, Tryz.ntmps70
    go_wp2_with fail
    exact bodyPost_ret (v := .agg #[.string A, .string B]) (by simp [results, Tryz.results70, go_sem]) rfl ⟨rfl, hR, by simpa using hFR⟩

set_option maxRecDepth 100000 in
set_option maxHeartbeats 2000000 in
theorem sub33f (g : Nat) (b ok : Bool) (A1 B1 A2 B2 A B : ByteArray) (w : World) (hf : Flag 64 g b w) (h : ∀ w, Calls Tryz.prog 71 #[.agg #[.string A1, .string B1], .agg #[.string A2, .string B2]] w fun e w' => e = .returned (.tuple #[.agg #[.string A, .string B], .bool ok]) ∧ Below w.heap.size w w') :
    Calls Tryz.prog 33 #[.pointer (some ⟨g, 0, none⟩), .agg #[.string A1, .string B1], .agg #[.string A2, .string B2]] w fun e w' => e = .returned (.agg #[.string A, .string B]) ∧ w.grownBy w' (some g) ∧ Flag 64 g (b || !ok) w' := by
  obtain ⟨hbW, g0, g1, g2⟩ := allocs3 w #[.string A1, .string B1] #[.string A2, .string B2] #[.string ⟨#[]⟩, .string ⟨#[]⟩] 26 26 26
  have k0 := cells2 g0
  have k1 := cells2 g1
  have H := Lib.hid h
  have hF := hf.below hbW
  have hlt := hf.lt
  clear h
  go_enter Tryz.func33, Tryz.ntmps33
  go_wp2_with fail
  generalize ((w.alloc (.cells #[.string A1, .string B1] 26)).alloc (.cells #[.string A2, .string B2] 26)).alloc (.cells #[.string ⟨#[]⟩, .string ⟨#[]⟩] 26) = W at *
  refine (H.out W).mono ?_
  rintro e w1 ⟨rfl, hb⟩
  go_wp2_with fail
  refine (try70f g b ok A B _ (hF.below hb)).mono ?_
  rintro e w2 ⟨rfl, hg, hF2⟩
  have G := blk_grown hg (blk_below hb g2) (show w.heap.size + 1 + 1 ≠ g by omega)
  have z0 := free_of_block G
  have z1 := cells2 G
  have hB := grown_trans (grown_below (below_trans' hbW hbW.size hb) g) hg
  obtain ⟨y0, y1⟩ := ret2 (A := A) (B := B) G
  have hR := grown_set2 hB (show w.heap.size ≤ w.heap.size + 1 + 1 by omega) (.string A) (.string B)
  have hFR := hF2.put2 (z := w.heap.size + 1 + 1) (by omega) (.string A) (.string B)
  clear k0 k1 hF hF2 hB
  go_wp2_with fail
  exact bodyPost_ret (v := .agg #[.string A, .string B]) (by simp [results, Tryz.results33, go_sem, y0, y1]) rfl ⟨rfl, hR, hFR⟩

set_option maxRecDepth 100000 in
set_option maxHeartbeats 2000000 in
theorem add34f (g : Nat) (b ok : Bool) (A1 B1 A2 B2 A B : ByteArray) (w : World) (hf : Flag 64 g b w) (h : ∀ w, Calls Tryz.prog 72 #[.agg #[.string A1, .string B1], .agg #[.string A2, .string B2]] w fun e w' => e = .returned (.tuple #[.agg #[.string A, .string B], .bool ok]) ∧ Below w.heap.size w w') :
    Calls Tryz.prog 34 #[.pointer (some ⟨g, 0, none⟩), .agg #[.string A1, .string B1], .agg #[.string A2, .string B2]] w fun e w' => e = .returned (.agg #[.string A, .string B]) ∧ w.grownBy w' (some g) ∧ Flag 64 g (b || !ok) w' := by
  obtain ⟨hbW, g0, g1, g2⟩ := allocs3 w #[.string A1, .string B1] #[.string A2, .string B2] #[.string ⟨#[]⟩, .string ⟨#[]⟩] 26 26 26
  have k0 := cells2 g0
  have k1 := cells2 g1
  have H := Lib.hid h
  have hF := hf.below hbW
  have hlt := hf.lt
  clear h
  go_enter Tryz.func34, Tryz.ntmps34
  go_wp2_with fail
  generalize ((w.alloc (.cells #[.string A1, .string B1] 26)).alloc (.cells #[.string A2, .string B2] 26)).alloc (.cells #[.string ⟨#[]⟩, .string ⟨#[]⟩] 26) = W at *
  refine (H.out W).mono ?_
  rintro e w1 ⟨rfl, hb⟩
  go_wp2_with fail
  refine (try70f g b ok A B _ (hF.below hb)).mono ?_
  rintro e w2 ⟨rfl, hg, hF2⟩
  have G := blk_grown hg (blk_below hb g2) (show w.heap.size + 1 + 1 ≠ g by omega)
  have z0 := free_of_block G
  have z1 := cells2 G
  have hB := grown_trans (grown_below (below_trans' hbW hbW.size hb) g) hg
  obtain ⟨y0, y1⟩ := ret2 (A := A) (B := B) G
  have hR := grown_set2 hB (show w.heap.size ≤ w.heap.size + 1 + 1 by omega) (.string A) (.string B)
  have hFR := hF2.put2 (z := w.heap.size + 1 + 1) (by omega) (.string A) (.string B)
  clear k0 k1 hF hF2 hB
  go_wp2_with fail
  exact bodyPost_ret (v := .agg #[.string A, .string B]) (by simp [results, Tryz.results34, go_sem, y0, y1]) rfl ⟨rfl, hR, hFR⟩

set_option maxRecDepth 100000 in
set_option maxHeartbeats 2000000 in
theorem estimate86_bad (g : Nat) (n : Int) (A B C D : ByteArray) (w : World) (hg : w.heap[g]? = some (.cells #[.bool true] 64 (0, 0))) :
    Calls Tryz.prog 32 #[.pointer (some ⟨g, 0, none⟩), .int .i64 n, .agg #[.string A, .string B], .agg #[.string C, .string D]] w fun e w' => e = .returned (.tuple #[estV 0 ⟨#[]⟩ ⟨#[]⟩ ⟨#[]⟩ ⟨#[]⟩, .bool false]) ∧ Below w.heap.size w w' := by
  obtain ⟨hbW, g0, g1, g2⟩ := allocs3 w #[.string A, .string B] #[.string C, .string D] #[.int .i64 0, .string ⟨#[]⟩, .string ⟨#[]⟩, .string ⟨#[]⟩, .string ⟨#[]⟩] 26 26 28
  have k0 := cells2 g0
  have k1 := cells2 g1
  have k2 := cells5 g2
  have f2 := free_of_block g2
  have kg := cell1 (blk_below hbW hg)
  have hbe := hbW
  clear hbW g0 g1 g2
  go_enter Tryz.func32, Tryz.ntmps32
  go_wp2_with fail
  exact bodyPost_ret (v := .tuple #[.agg #[.int .i64 0, .string ⟨#[]⟩, .string ⟨#[]⟩, .string ⟨#[]⟩, .string ⟨#[]⟩], .bool false]) (by simp [results, Tryz.results32, go_sem]) rfl ⟨rfl, hbe⟩
theorem allocs4 (w : World) (a b c d : Array Value) (t u s r : TypeId) : Below w.heap.size w ((((w.alloc (.cells a t)).alloc (.cells b u)).alloc (.cells c s)).alloc (.cells d r)) ∧ ((((w.alloc (.cells a t)).alloc (.cells b u)).alloc (.cells c s)).alloc (.cells d r)).heap[w.heap.size]? = some (.cells a t (0, 0)) ∧
    ((((w.alloc (.cells a t)).alloc (.cells b u)).alloc (.cells c s)).alloc (.cells d r)).heap[w.heap.size + 1]? = some (.cells b u (0, 0)) ∧ ((((w.alloc (.cells a t)).alloc (.cells b u)).alloc (.cells c s)).alloc (.cells d r)).heap[w.heap.size + 1 + 1]? = some (.cells c s (0, 0)) ∧ ((((w.alloc (.cells a t)).alloc (.cells b u)).alloc (.cells c s)).alloc (.cells d r)).heap[w.heap.size + 1 + 1 + 1]? = some (.cells d r (0, 0)) := by
  obtain ⟨hb, g0, g1, g2⟩ := allocs3 w a b c t u s
  have h4 := (Below.refl _ (((w.alloc (.cells a t)).alloc (.cells b u)).alloc (.cells c s))).alloc (Nat.le_refl _) (.cells d r)
  have h5 := heap_alloc_new (((w.alloc (.cells a t)).alloc (.cells b u)).alloc (.cells c s)) (.cells d r)
  rw [show (((w.alloc (.cells a t)).alloc (.cells b u)).alloc (.cells c s)).heap.size = w.heap.size + 1 + 1 + 1 by simp] at h5
  exact ⟨below_trans' hb hb.size h4, blk_below h4 g0, blk_below h4 g1, blk_below h4 g2, h5⟩
theorem c5set {w : World} {g k j : Nat} {x y z p q u : Value} (h : w.cell? ⟨g, 0, none⟩ = some x ∧ w.cell? ⟨g, 1, none⟩ = some y ∧ w.cell? ⟨g, 2, none⟩ = some z ∧ w.cell? ⟨g, 3, none⟩ = some p ∧ w.cell? ⟨g, 4, none⟩ = some q) (hne : g ≠ k) :
    (w.setCell ⟨k, j, none⟩ u).cell? ⟨g, 0, none⟩ = some x ∧ (w.setCell ⟨k, j, none⟩ u).cell? ⟨g, 1, none⟩ = some y ∧ (w.setCell ⟨k, j, none⟩ u).cell? ⟨g, 2, none⟩ = some z ∧ (w.setCell ⟨k, j, none⟩ u).cell? ⟨g, 3, none⟩ = some p ∧ (w.setCell ⟨k, j, none⟩ u).cell? ⟨g, 4, none⟩ = some q := by
  have e := Below.heap_setCell w ⟨k, j, none⟩ u g hne
  simp only [World.cell?, e]
  exact h
end Go.Proofs.YtpligjkbnlfhgaaGreatDoor
