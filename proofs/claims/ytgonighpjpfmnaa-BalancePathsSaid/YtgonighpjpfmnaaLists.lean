/- Lists in rows of memory; contracts of Scores, Weights. -/
import Derived.Test.YtgonighpjpfmnaaData
import Derived.Deep.AppendLies
import Derived.Deep.RegionHeld3
namespace Go.Proofs.Ytgonighpjpfmnaa
open Go.RowKit

theorem flat_len {α : Type} (c : α → List Value) (size : Nat) (hc : ∀ a, (c a).length = size) : ∀ l : List α, (l.flatMap c).length = l.length * size
  | [] => by simp
  | a :: l => by rw [List.flatMap_cons, List.length_append, hc, flat_len c size hc l, List.length_cons, Nat.succ_mul]; omega

theorem flat_get {α : Type} (c : α → List Value) (size : Nat) (hc : ∀ a, (c a).length = size) : ∀ (l : List α) (i j : Nat) (a : α), l[i]? = some a → j < size → (l.flatMap c)[i * size + j]? = (c a)[j]?
  | [], i, j, a, h, _ => by simp at h
  | b :: l, 0, j, a, h, hj => by
    simp only [List.getElem?_cons_zero, Option.some.injEq] at h
    subst h
    rw [List.flatMap_cons, Nat.zero_mul, Nat.zero_add, List.getElem?_append_left (by rw [hc]; exact hj)]
  | b :: l, i + 1, j, a, h, hj => by
    rw [List.getElem?_cons_succ] at h
    rw [List.flatMap_cons, Nat.succ_mul, List.getElem?_append_right (by rw [hc]; omega), hc]
    rw [show i * size + size + j - size = i * size + j from by omega]
    exact flat_get c size hc l i j a h hj

/-- The value v is a slice of the call's own (block numbers from B on): the elements l. -/
def Own {α : Type} (c : α → List Value) (e size : Nat) (w : World) (B : Nat) (v : Value) (l : List α) : Prop := w.ownsRow B e size v l.length (l.flatMap c)

theorem Own.shape {α : Type} {c : α → List Value} {e size : Nat} {w : World} {B : Nat} {v : Value} {l : List α} (h : Own c e size w B v l) : ∃ A cap, v = .slice A l.length cap ∧ l.length ≤ cap := by
  rcases h.2 with ⟨rfl, h0⟩ | ⟨g, cap, cur, rfl, _, _, hn, _⟩
  · exact ⟨none, 0, by rw [h0], by omega⟩
  · exact ⟨_, cap, rfl, hn⟩

theorem Own.rows {α : Type} {c : α → List Value} {e size : Nat} {w : World} {B n cap : Nat} {A : Option Addr} {l : List α} (hc : ∀ a, (c a).length = size) (d : α) (h : Own c e size w B (.slice A n cap) l) : RowsAt w w.heap.size size A l.length (fun i => c (l.getD i d)) := fun hn => by
  rcases h.2 with ⟨hv, h0⟩ | ⟨g, cap', cur, hv, _, hg, hle, _, hsz, htk⟩
  · omega
  · injection hv with hA
    refine ⟨g, 0, hA, (Array.getElem?_eq_some_iff.1 hg).1, fun i hi j u hu => ?_⟩
    have hj : j < size := by have := (List.getElem?_eq_some_iff.1 hu).1; rw [hc] at this; exact this
    have hx := flat_get c size hc l i j (l.getD i d) (by rw [List.getElem?_eq_getElem hi, List.getD_eq_getElem?_getD, List.getElem?_eq_getElem hi]; rfl) hj
    rw [cell_of_row w g _ cur e (0, 0) hg, Nat.zero_add]
    rw [hu, ← htk, List.getElem?_take] at hx
    split at hx
    · simpa using hx
    · cases hx

theorem Own.nil {α : Type} (c : α → List Value) (e size : Nat) (w : World) (B : Nat) : Own c e size w B (.slice none 0 0) [] := World.ownsRow_nil w B e size

theorem Own.below {α : Type} {c : α → List Value} {e size : Nat} {w w' : World} {B : Nat} {v : Value} {l : List α} (h : Own c e size w B v l) (hb : Below w.heap.size w w') : Own c e size w' B v l :=
  World.ownsRow.kept (row := none) h ⟨hb.os, hb.tape, hb.output, hb.size, fun k hk _ => hb.block k hk⟩ (by cases v.ownBlock <;> simp)

theorem Own.only {α : Type} {c : α → List Value} {e size : Nat} {w w' : World} {B g : Nat} {v : Value} {l : List α} (h : Own c e size w B v l) (hb : w.grownBy w' (some g)) (hg : g < B) : Own c e size w' B v l :=
  World.ownsRow.kept h hb (by
    cases hv : v.ownBlock with
    | none => exact .inl rfl
    | some k => exact .inr (fun he => by injection he with he; have := World.ownsRow.lt h k hv; omega))

theorem Own.mono {α : Type} {c : α → List Value} {e size : Nat} {w : World} {B B' : Nat} {v : Value} {l : List α} (h : Own c e size w B v l) (hB : B' ≤ B) : Own c e size w B' v l := by
  refine ⟨h.1, ?_⟩
  rcases h.2 with hn | ⟨g, cap, cur, hv, hb, r⟩
  · exact .inl hn
  · exact .inr ⟨g, cap, cur, hv, Nat.le_trans hB hb, r⟩

theorem SrcAt.below {w w' : World} {g : Nat} {A : Option Addr} {n c : Nat} (h : SrcAt w g A n c) (hb : Below w.heap.size w w') : SrcAt w' g A n c := by
  obtain ⟨k, hk, hg⟩ := h
  exact ⟨k, hk, by rw [hb.block g (Array.getElem?_eq_some_iff.1 hg).1]; exact hg⟩

theorem SrcAt.other {w w' : World} {g : Nat} {A : Option Addr} {n c : Nat} {row : Option Nat} (h : SrcAt w g A n c) (hb : w.grownBy w' row) (hne : some g ≠ row) : SrcAt w' g A n c := by
  obtain ⟨k, hk, hg⟩ := h
  exact ⟨k, hk, by rw [hb.block g (Array.getElem?_eq_some_iff.1 hg).1 hne]; exact hg⟩
theorem SrcAt.lt {w : World} {g : Nat} {A : Option Addr} {n c : Nat} (h : SrcAt w g A n c) : g < w.heap.size := by
  obtain ⟨k, hk, hg⟩ := h
  exact (Array.getElem?_eq_some_iff.1 hg).1

theorem BytesAt.kept {w w' : World} {B B' : Nat} {A : Option Addr} {n : Nat} (h : BytesAt w B A n) (hb : Below B' w w') (hB : B ≤ B') : BytesAt w' B A n := by
  obtain ⟨z, hz, hR⟩ := h
  exact ⟨z, hz, hR.below hb hB⟩

theorem BytesAt.only {w w' : World} {g : Nat} {A : Option Addr} {n : Nat} (h : BytesAt w g A n) (hb : w.grownBy w' (some g)) (hg : g ≤ w.heap.size) : BytesAt w' g A n := by
  obtain ⟨z, hz, hR⟩ := h
  exact ⟨z, hz, hR.kept fun k hk => hb.block k (by omega) (fun he => by injection he with he; omega)⟩

/-- While data are made: the Source in block g, the bytes below it, and nothing else below it has turned. -/
def Src (w0 : World) (g : Nat) (A : Option Addr) (n c : Nat) (w : World) : Prop := SrcAt w g A n c ∧ BytesAt w g A n ∧ Below g w0 w
theorem Src.drewN {w0 : World} {g : Nat} {A : Option Addr} {n c : Nat} {w : World} (h : Src w0 g A n c w) (k : Nat) : Src w0 g A n c (w.drewN k) := ⟨h.1, h.2.1, below_drewN h.2.2 k⟩
theorem Src.next {w0 : World} {g : Nat} {A : Option Addr} {n c : Nat} {w w' : World} {m : Int} {e : Ending} (h : Src w0 g A n c w) (hp : NextPost w g A n c m e w') : Src w0 g A n c w' :=
  ⟨hp.2.1, h.2.1.only hp.2.2 (Nat.le_of_lt h.1.lt), h.2.2.grown hp.2.2 (Nat.le_of_lt h.1.lt) (fun k hk => by injection hk with hk; omega)⟩
theorem Src.below {w0 : World} {g : Nat} {A : Option Addr} {n c : Nat} {w w' : World} (h : Src w0 g A n c w) (hb : Below w.heap.size w w') : Src w0 g A n c w' :=
  ⟨h.1.below hb, h.2.1.kept hb (Nat.le_of_lt h.1.lt), h.2.2.trans (hb.mono (Nat.le_of_lt h.1.lt))⟩
theorem Src.other {w0 : World} {g : Nat} {A : Option Addr} {n c : Nat} {w w' : World} {row : Option Nat} (h : Src w0 g A n c w) (hb : w.grownBy w' row) (hr : ∀ k, row = some k → g < k) : Src w0 g A n c w' := by
  refine ⟨h.1.other hb (fun he => by have := hr g he.symm; omega), ?_, h.2.2.grown hb (Nat.le_of_lt h.1.lt) (fun k hk => Nat.le_of_lt (hr k hk))⟩
  obtain ⟨z, hz, hR⟩ := h.2.1
  exact ⟨z, hz, hR.kept fun k hk => hb.block k (by have := h.1.lt; omega) (fun he => by have := hr k he.symm; omega)⟩
theorem Own.snoc {α : Type} {c : α → List Value} {e size : Nat} {w : World} {B : Nat} {v : Value} {l : List α} {s : α} (h : w.ownsRow B e size v (l.length + 1) (l.flatMap c ++ c s)) : Own c e size w B v (l ++ [s]) := by
  unfold Own
  rw [List.length_append, List.length_singleton, List.flatMap_append, List.flatMap_singleton]
  exact h

structure Scr where
  num : Int
  unit : Int
  rng : Int
def Scr.cells (s : Scr) : List Value := [.int .i64 s.num, .int .i64 s.unit, .int .i64 s.rng]
def OwnScr := Own Scr.cells 37 3
/-- A made score: of small numbers. -/
def Scr.small (s : Scr) : Prop := 1 ≤ s.unit ∧ s.unit ≤ 20 ∧ s.unit + 1 ≤ s.rng ∧ s.rng ≤ s.unit + 100 ∧ s.unit - s.rng ≤ s.num ∧ s.num ≤ s.rng - s.unit

theorem info37 : (Try.prog.info? 37).map (fun i => (i.zero, i.size, i.bytes)) = some (some (.agg #[.int .i64 0, .int .i64 0, .int .i64 0]), 3, 24) := by kernel_rfl

def ScoresPost (w : World) (e : Ending) (w' : World) : Prop := ∃ v l, e = .returned v ∧ l.length ≤ 30 ∧ (∀ s ∈ l, Scr.small s) ∧ OwnScr w' w.heap.size v l ∧ Below w.heap.size w w'

set_option maxRecDepth 100000 in
set_option maxHeartbeats 1000000 in
theorem scores49 (A : Option Addr) (n c : Nat) (w : World) (hn : n ≤ 4611686018427387904) (hL : BytesAt w w.heap.size A n) :
    Calls Try.prog 49 #[.slice A n c] w (ScoresPost w) := by
  obtain ⟨i0, hi, hz0, hz1, hz2⟩ := info_parts info37
  obtain ⟨g, hg⟩ : ∃ g, g = w.heap.size := ⟨_, rfl⟩
  have hs0 : SrcAt (w.alloc (.cells #[.slice A n c, .int .i64 0] 110)) g A n c := ⟨0, Nat.zero_le _, by rw [hg]; exact heap_alloc_new w _⟩
  have hb0 : Below g w (w.alloc (.cells #[.slice A n c, .int .i64 0] 110)) := by rw [hg]; exact (Below.refl _ _).alloc (Nat.le_refl _) _
  have Hg := Lib.hid hg
  go_enter Try.func49, Try.ntmps49
  go_wp2_with fail
  rw [← hg]
  clear hg
  have hS0 : Src w g A n c (w.alloc (.cells #[.slice A n c, .int .i64 0] 110)) := ⟨hs0, by have := Hg.out; subst this; exact hL.kept hb0 (Nat.le_refl _), hb0⟩
  clear hs0 hb0
  go_loopg [4] 30 (fun m v wr => ∃ l : List Scr, m = 30 - l.length ∧ l.length ≤ 30 ∧ (∀ s ∈ l, Scr.small s) ∧ OwnScr wr (g + 1) v l ∧ Src w g A n c wr)
  case atStart => exact ⟨[], rfl, by simp, by simp, Own.nil _ _ _ _ _, hS0⟩
  case round =>
    clear hS0
    obtain ⟨l, hm, hl, hgood, hown, hS⟩ := hrel
    have fin : ∀ w' v, OwnScr w' (g + 1) v l → Src w g A n c w' → ScoresPost w (.returned v) w' := fun w' v ho hs => by
      have hg := Hg.out; subst hg
      exact ⟨v, l, rfl, hl, hgood, Own.mono ho (by omega), hs.2.2⟩
    obtain ⟨A', cap, rfl, hcap⟩ := Own.shape hown
    have HM := Lib.hid hm
    clear hm
    go_wp2_with fail
    refine (more77 g A n c _ hn hS.1).mono ?_
    rintro e w' ⟨⟨b, rfl⟩, nq, rfl⟩
    cases b
    · go_wp2_with fail
      go_ret
      exact fin _ _ (Own.below hown (below_drewN (Below.refl _ _) nq)) (hS.drewN nq)
    · by_cases hlt : l.length < 30
      · have hlt' : decide (l.length < 30) = true := by simpa using hlt
        go_wp2_with fail
        refine (next79 g A n c _ _ (by omega) (by omega) hn (hS.drewN nq).1 (hS.drewN nq).2.1).mono ?_
        intro e w1 hp
        have hS1 := (hS.drewN nq).next hp
        have ho1 : OwnScr w1 (g + 1) _ l := Own.only (Own.below hown (below_drewN (Below.refl _ _) nq)) hp.2.2 (by omega)
        obtain ⟨⟨v1, rfl, hv1, hv1'⟩, _, _⟩ := hp
        clear hown hS
        go_wp2_with fail
        refine (next79 g A n c _ _ (by omega) (by omega) hn hS1.1 hS1.2.1).mono ?_
        intro e w2 hp
        have hS2 := hS1.next hp
        have ho2 : OwnScr w2 (g + 1) _ l := Own.only ho1 hp.2.2 (by omega)
        obtain ⟨⟨v2, rfl, hv2, hv2'⟩, _, _⟩ := hp
        clear ho1 hS1
        go_wp2_with fail
        refine (next79 g A n c _ _ (by omega) (by omega) hn hS2.1 hS2.2.1).mono ?_
        intro e w3 hp
        have hS3 := hS2.next hp
        have ho3 : OwnScr w3 (g + 1) _ l := Own.only ho2 hp.2.2 (by omega)
        obtain ⟨⟨v3, rfl, hv3, hv3'⟩, _, _⟩ := hp
        clear ho2 hS2
        have hq := Int.emod_nonneg v3 (show (2 * (1 + v2) + 1) ≠ 0 by omega)
        have hq' := Int.emod_lt_of_pos v3 (show 0 < (2 * (1 + v2) + 1) by omega)
        go_wp2_with (at_builtin; refine wpList_append_lies _ (by rfl) (.tmp 23) (.tmp 37) 38 (by rfl) (g + 1) 37 i0 _ 3 24 Try.underlying38 hi hz0 hz1 hz2 rfl (by omega) _ _ _ (by rfl) (World.ownsRow.alloc ho3 _) ⟨w3.heap.size, 0, none⟩ 1 1 [.int .i64 (v3 % (2 * (1 + v2) + 1) - (1 + v2)), .int .i64 (1 + v1), .int .i64 (1 + v1 + (1 + v2))] (by rfl) (by rfl) (World.news_of_block (heap_alloc_new w3 _)) (by simp [Value.oneCell']) (by omega) (by unfold maxLen; omega) (by omega) (by have := hS3.1.lt; simp; omega) (w3.heap.size + 1) (by simp) ?_; intro g' cap' w4 hown4 hgrow hat hlt4)
        have hS4 : Src w g A n c w4 := (hS3.below ((Below.refl _ _).alloc (Nat.le_refl _) _)).other hgrow (fun k hk => by have := World.ownsRow.lt ho3 k hk; omega)
        have ho4 : OwnScr w4 (g + 1) _ (l ++ [⟨v3 % (2 * (1 + v2) + 1) - (1 + v2), 1 + v1, 1 + v1 + (1 + v2)⟩]) := Own.snoc hown4
        clear ho3 hS3 hown4 hgrow hat
        go_roundg (30 - (l.length + 1))
        case measure => have := HM.out; omega
        case rel => exact ⟨_, by simp, by simp; omega, by intro s hs; rw [List.mem_append] at hs; rcases hs with hs | hs; exact hgood s hs; simp only [List.mem_singleton] at hs; subst hs; unfold Scr.small; simp; omega, ho4, hS4⟩
      · have hlt' : decide (l.length < 30) = false := by simpa using hlt
        go_wp2_with fail
        go_ret
        exact fin _ _ (Own.below hown (below_drewN (Below.refl _ _) nq)) (hS.drewN nq)
end Go.Proofs.Ytgonighpjpfmnaa
