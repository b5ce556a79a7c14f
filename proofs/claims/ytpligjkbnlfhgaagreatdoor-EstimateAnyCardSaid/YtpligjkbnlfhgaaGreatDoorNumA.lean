/- numbers and pair: the lists of the laws of chapter 38. No statement is proved here. -/
import Derived.Test.YtpligjkbnlfhgaaGreatDoorEst2
import Derived.Test.YtpligjkbnlfhgaaGreatDoorArgs2
import Derived.Test.YtpligjkbnlfhgaaGreatDoorPair
import Derived.IntWalk
namespace Go.Proofs.YtpligjkbnlfhgaaGreatDoor
open Go.RowKit

/-- A slice of numbers of the call's own, its numbers by a function. -/
def OwnF (w : World) (B : Nat) (v : Value) (n : Nat) (f : Nat → Int) : Prop := ∃ l : List Int, l.length = n ∧ (∀ i, i < n → l.getD i 0 = f i) ∧ Own intC 3 1 w B v l
theorem OwnF.ints {w : World} {B n m c : Nat} {A : Option Addr} {f : Nat → Int} (h : OwnF w B (.slice A m c) n f) : m = n ∧ IntsV w A m c f := by
  obtain ⟨l, rfl, hf, ho⟩ := h
  obtain ⟨rfl, h2⟩ := own_ints ho hf
  exact ⟨rfl, h2⟩
theorem OwnF.shape {w : World} {B n : Nat} {v : Value} {f : Nat → Int} (h : OwnF w B v n f) : ∃ A c, v = .slice A n c ∧ n ≤ c := by
  obtain ⟨l, rfl, hf, ho⟩ := h
  exact Own.shape ho
theorem OwnF.below {w w' : World} {B n : Nat} {v : Value} {f : Nat → Int} (h : OwnF w B v n f) (hb : Below w.heap.size w w') : OwnF w' B v n f := by
  obtain ⟨l, h1, h2, h3⟩ := h
  exact ⟨l, h1, h2, Own.below h3 hb⟩
theorem OwnF.mono {w : World} {B B' n : Nat} {v : Value} {f : Nat → Int} (h : OwnF w B v n f) (hB : B' ≤ B) : OwnF w B' v n f := by
  obtain ⟨l, h1, h2, h3⟩ := h
  exact ⟨l, h1, h2, Own.mono h3 hB⟩
theorem OwnF.nil {w : World} {B : Nat} (f : Nat → Int) : OwnF w B (.slice none 0 0) 0 f := ⟨[], rfl, fun i h => absurd h (by omega), Own.nil _ _ _ _ _⟩
theorem getD_snoc {l : List Int} {x : Int} {F : Nat → Int} (h : ∀ i, i < l.length → l.getD i 0 = F i) (hx : x = F l.length) : ∀ i, i < l.length + 1 → (l ++ [x]).getD i 0 = F i := fun i hi => by
  rw [List.getD_eq_getElem?_getD]
  by_cases e : i < l.length
  · rw [List.getElem?_append_left e, ← List.getD_eq_getElem?_getD, h i e]
  · have e' : i = l.length := by omega
    subst e'
    rw [List.getElem?_append_right (Nat.le_refl _)]
    simp [hx]

theorem tmod_i64 (x m : Int) (hm : 0 < m) : -m < x.tmod m ∧ x.tmod m < m := by
  have h1 := Int.tmod_lt_of_pos x hm
  have h2 := Int.lt_tmod_of_pos x hm
  omega

/-- Numbers of 32 binary digits behind a slice's address. -/
def RdW (w : World) (A : Option Addr) (n : Nat) (f : Nat → Int) : Prop := 0 < n → ∃ b off, A = some ⟨b, off, none⟩ ∧ b < w.heap.size ∧ ∀ i, i < n → w.cell? ⟨b, off + i, none⟩ = some (.int .i32 (f i))
theorem RdW.below {w w' : World} {A : Option Addr} {n : Nat} {f : Nat → Int} (h : RdW w A n f) (hb : Below w.heap.size w w') : RdW w' A n f := fun hn => by
  obtain ⟨b, off, hA, hbl, hc⟩ := h hn
  refine ⟨b, off, hA, Nat.lt_of_lt_of_le hbl hb.size, fun i hi => ?_⟩
  rw [← hc i hi]
  simp only [World.cell?, hb.block b hbl]

set_option maxRecDepth 100000 in
set_option maxHeartbeats 8000000 in
theorem numbers94 (A : Option Addr) (n c : Nat) (s : Int) (f : Nat → Int) (w : World) (hs : 0 ≤ s ∧ s ≤ 255) (hr : RdW w A n f) (hf : bd32 f n) (hn : n ≤ maxLen) :
    Calls Tryz.prog 8 #[.slice A n c, .int .u8 s] w fun e w' => ∃ A' c', e = .returned (.slice A' (min n 60) c') ∧ OwnF w' w.heap.size (.slice A' (min n 60) c') (min n 60) (fun i => numN s (f i)) ∧ Below w.heap.size w w' := by
  obtain ⟨i0, hi, hz0, hz1, hz2⟩ := info_parts info3n
  have HR := Lib.hid hr
  have HF := Lib.hid hf
  have h4 : s % 4 = 0 ∨ s % 4 = 1 ∨ s % 4 = 2 ∨ s % 4 = 3 := by omega
  obtain ⟨m, hm⟩ : ∃ m, min n 60 = m := ⟨_, rfl⟩
  rw [hm]
  have HM := Lib.hid hm
  unfold maxLen at hn
  clear hr hf hm
  go_enter Tryz.func8, Tryz.ntmps8
  go_wp2_with fail
  go_loopg [5, 6, 7] (m + 1) (fun r o i _ wr => ∃ (k cp : Nat) (Ap : Option Addr) (l : List Int), k ≤ m ∧ r = m + 1 - k ∧ i = .int .i64 k ∧ o = .slice Ap k cp ∧ l.length = k ∧ Hid (∀ i, i < k → l.getD i 0 = numN s (f i)) ∧ Own intC 3 1 wr w.heap.size (.slice Ap k cp) l ∧ Below w.heap.size w wr)
  case atStart => exact ⟨0, 0, none, [], by omega, rfl, rfl, rfl, rfl, Lib.hid (fun i h => absurd h (by omega)), Own.nil _ _ _ _ _, Below.refl _ _⟩
  case round =>
    obtain ⟨k, cp, Ap, l, hk, hr', rfl, rfl, rfl, hgood, hown, hb⟩ := hrel
    have HK := Lib.hid hr'
    have hm := HM.out
    clear hr'
    by_cases hkn : l.length < n ∧ l.length < 60
    · obtain ⟨hk1, hk2⟩ := hkn
      have hk1I : (l.length : Int) < n := by omega
      have hk2I : (l.length : Int) < 60 := by omega
      obtain ⟨b, off, rfl, hb0, hcc⟩ := HR.out (by omega)
      have hx := hcc l.length hk1
      clear hcc
      have hfb := HF.out l.length hk1
      have hxr : wr.cell? ⟨b, off + l.length, none⟩ = some (.int .i32 (f l.length)) := (hb.cell hb0).trans hx
      obtain ⟨X, hX⟩ : ∃ X, f l.length = X := ⟨_, rfl⟩
      rw [hX] at hfb hxr
      have HX := Lib.hid hX
      have hbr : b < wr.heap.size := Nat.lt_of_lt_of_le hb0 hb.size
      have hsz := hb.size
      clear hx hX hm
      have hown' := hown
      rcases h4 with h4 | h4 | h4 | h4
      · have hy : numN s X = X.tmod 1048577 := by unfold numN; rw [if_neg (by omega)]
        have t2 := tmod_i64 X 1048577 (by decide)
        have HY := Lib.hid hy
        have hb2 := hb
        have hown2 := hown
        clear hb hown hown' hy
        go_wp2_with (at_builtin; refine wpList_append_lies _ (by rfl) (.tmp 33) (.tmp 36) 31 (by rfl) w.heap.size 3 i0 _ 1 8 Tryz.underlying31 hi hz0 hz1 hz2 rfl (by omega) _ _ _ (by rfl) (World.ownsRow.alloc hown2 _) ⟨wr.heap.size, 0, none⟩ 1 1 [.int .i64 (X.tmod 1048577)] (by rfl) (by rfl) (World.news_of_block (by have := heap_alloc_new wr (.cells #[.int .i64 (X.tmod 1048577)] 3); simpa using this)) (by simp [Value.oneCell']) (by omega) (by unfold maxLen; omega) (by omega) (by simp; omega) (wr.heap.size + 1) (by simp) ?_; intro g' cap' w6 hown6 hgrow hat hlt6)
        have hb6 : Below w.heap.size w w6 := (hb2.alloc hb2.size _).grown hgrow (by simp; omega) (fun q hq => (World.ownsRow.lt hown2 q hq).1)
        have ho6 : Own intC 3 1 w6 w.heap.size (.slice (some ⟨g', 0, none⟩) (l.length + 1) cap') (l ++ [numN s X]) := by rw [HY.out]; exact Own.snoc (c := intC) hown6
        clear hown6 hgrow hat hown2 hb2
        go_roundg (m + 1 - (l.length + 1))
        case measure => have := HK.out; have := HM.out; omega
        case rel => exact ⟨l.length + 1, cap', some ⟨g', 0, none⟩, _, by have := HM.out; omega, rfl, by go_num, rfl, by simp, Lib.hid (getD_snoc hgood.out (by rw [HX.out])), ho6, hb6⟩
      · have hy : numN s X = (X.tmod 5).tmod 1048577 := by unfold numN tabN; rw [if_pos (by omega), h4]; rfl
        have t1 := tmod_i64 X 5 (by decide)
        have t2 := tmod_i64 (X.tmod 5) 1048577 (by decide)
        have HY := Lib.hid hy
        have hb2 := hb.alloc hb.size (.cells #[.int .i64 1, .int .i64 5, .int .i64 100, .int .i64 5000] 3)
        have hown2 : Own intC 3 1 (wr.alloc (.cells #[.int .i64 1, .int .i64 5, .int .i64 100, .int .i64 5000] 3)) w.heap.size (.slice Ap l.length cp) l := Own.below hown ((Below.refl _ _).alloc (Nat.le_refl _) _)
        clear hb hown hown' hy
        go_wp2_with (at_builtin; refine wpList_append_lies _ (by rfl) (.tmp 33) (.tmp 36) 31 (by rfl) w.heap.size 3 i0 _ 1 8 Tryz.underlying31 hi hz0 hz1 hz2 rfl (by omega) _ _ _ (by rfl) (World.ownsRow.alloc hown2 _) ⟨wr.heap.size + 1, 0, none⟩ 1 1 [.int .i64 ((X.tmod 5).tmod 1048577)] (by rfl) (by rfl) (World.news_of_block (by have := heap_alloc_new (wr.alloc (.cells #[.int .i64 1, .int .i64 5, .int .i64 100, .int .i64 5000] 3)) (.cells #[.int .i64 ((X.tmod 5).tmod 1048577)] 3); simpa using this)) (by simp [Value.oneCell']) (by omega) (by unfold maxLen; omega) (by omega) (by simp; omega) (wr.heap.size + 2) (by simp) ?_; intro g' cap' w6 hown6 hgrow hat hlt6)
        have hb6 : Below w.heap.size w w6 := (hb2.alloc hb2.size _).grown hgrow (by simp; omega) (fun q hq => (World.ownsRow.lt hown2 q hq).1)
        have ho6 : Own intC 3 1 w6 w.heap.size (.slice (some ⟨g', 0, none⟩) (l.length + 1) cap') (l ++ [numN s X]) := by rw [HY.out]; exact Own.snoc (c := intC) hown6
        clear hown6 hgrow hat hown2 hb2
        go_roundg (m + 1 - (l.length + 1))
        case measure => have := HK.out; have := HM.out; omega
        case rel => exact ⟨l.length + 1, cap', some ⟨g', 0, none⟩, _, by have := HM.out; omega, rfl, by go_num, rfl, by simp, Lib.hid (getD_snoc hgood.out (by rw [HX.out])), ho6, hb6⟩
      · have hy : numN s X = (X.tmod 100).tmod 1048577 := by unfold numN tabN; rw [if_pos (by omega), h4]; rfl
        have t1 := tmod_i64 X 100 (by decide)
        have t2 := tmod_i64 (X.tmod 100) 1048577 (by decide)
        have HY := Lib.hid hy
        have hb2 := hb.alloc hb.size (.cells #[.int .i64 1, .int .i64 5, .int .i64 100, .int .i64 5000] 3)
        have hown2 : Own intC 3 1 (wr.alloc (.cells #[.int .i64 1, .int .i64 5, .int .i64 100, .int .i64 5000] 3)) w.heap.size (.slice Ap l.length cp) l := Own.below hown ((Below.refl _ _).alloc (Nat.le_refl _) _)
        clear hb hown hown' hy
        go_wp2_with (at_builtin; refine wpList_append_lies _ (by rfl) (.tmp 33) (.tmp 36) 31 (by rfl) w.heap.size 3 i0 _ 1 8 Tryz.underlying31 hi hz0 hz1 hz2 rfl (by omega) _ _ _ (by rfl) (World.ownsRow.alloc hown2 _) ⟨wr.heap.size + 1, 0, none⟩ 1 1 [.int .i64 ((X.tmod 100).tmod 1048577)] (by rfl) (by rfl) (World.news_of_block (by have := heap_alloc_new (wr.alloc (.cells #[.int .i64 1, .int .i64 5, .int .i64 100, .int .i64 5000] 3)) (.cells #[.int .i64 ((X.tmod 100).tmod 1048577)] 3); simpa using this)) (by simp [Value.oneCell']) (by omega) (by unfold maxLen; omega) (by omega) (by simp; omega) (wr.heap.size + 2) (by simp) ?_; intro g' cap' w6 hown6 hgrow hat hlt6)
        have hb6 : Below w.heap.size w w6 := (hb2.alloc hb2.size _).grown hgrow (by simp; omega) (fun q hq => (World.ownsRow.lt hown2 q hq).1)
        have ho6 : Own intC 3 1 w6 w.heap.size (.slice (some ⟨g', 0, none⟩) (l.length + 1) cap') (l ++ [numN s X]) := by rw [HY.out]; exact Own.snoc (c := intC) hown6
        clear hown6 hgrow hat hown2 hb2
        go_roundg (m + 1 - (l.length + 1))
        case measure => have := HK.out; have := HM.out; omega
        case rel => exact ⟨l.length + 1, cap', some ⟨g', 0, none⟩, _, by have := HM.out; omega, rfl, by go_num, rfl, by simp, Lib.hid (getD_snoc hgood.out (by rw [HX.out])), ho6, hb6⟩
      · have hy : numN s X = (X.tmod 5000).tmod 1048577 := by unfold numN tabN; rw [if_pos (by omega), h4]; rfl
        have t1 := tmod_i64 X 5000 (by decide)
        have t2 := tmod_i64 (X.tmod 5000) 1048577 (by decide)
        have HY := Lib.hid hy
        have hb2 := hb.alloc hb.size (.cells #[.int .i64 1, .int .i64 5, .int .i64 100, .int .i64 5000] 3)
        have hown2 : Own intC 3 1 (wr.alloc (.cells #[.int .i64 1, .int .i64 5, .int .i64 100, .int .i64 5000] 3)) w.heap.size (.slice Ap l.length cp) l := Own.below hown ((Below.refl _ _).alloc (Nat.le_refl _) _)
        clear hb hown hown' hy
        go_wp2_with (at_builtin; refine wpList_append_lies _ (by rfl) (.tmp 33) (.tmp 36) 31 (by rfl) w.heap.size 3 i0 _ 1 8 Tryz.underlying31 hi hz0 hz1 hz2 rfl (by omega) _ _ _ (by rfl) (World.ownsRow.alloc hown2 _) ⟨wr.heap.size + 1, 0, none⟩ 1 1 [.int .i64 ((X.tmod 5000).tmod 1048577)] (by rfl) (by rfl) (World.news_of_block (by have := heap_alloc_new (wr.alloc (.cells #[.int .i64 1, .int .i64 5, .int .i64 100, .int .i64 5000] 3)) (.cells #[.int .i64 ((X.tmod 5000).tmod 1048577)] 3); simpa using this)) (by simp [Value.oneCell']) (by omega) (by unfold maxLen; omega) (by omega) (by simp; omega) (wr.heap.size + 2) (by simp) ?_; intro g' cap' w6 hown6 hgrow hat hlt6)
        have hb6 : Below w.heap.size w w6 := (hb2.alloc hb2.size _).grown hgrow (by simp; omega) (fun q hq => (World.ownsRow.lt hown2 q hq).1)
        have ho6 : Own intC 3 1 w6 w.heap.size (.slice (some ⟨g', 0, none⟩) (l.length + 1) cap') (l ++ [numN s X]) := by rw [HY.out]; exact Own.snoc (c := intC) hown6
        clear hown6 hgrow hat hown2 hb2
        go_roundg (m + 1 - (l.length + 1))
        case measure => have := HK.out; have := HM.out; omega
        case rel => exact ⟨l.length + 1, cap', some ⟨g', 0, none⟩, _, by have := HM.out; omega, rfl, by go_num, rfl, by simp, Lib.hid (getD_snoc hgood.out (by rw [HX.out])), ho6, hb6⟩
    · have hkm : l.length = m := by omega
      subst hkm
      have hcase : ¬ l.length < n ∨ (l.length < n ∧ ¬ l.length < 60) := by omega
      have fin : OwnF wr w.heap.size (.slice Ap l.length cp) l.length (fun i => numN s (f i)) := ⟨l, rfl, hgood.out, hown⟩
      have FIN := Lib.hid fin
      clear fin hown hm hkn
      rcases hcase with h | ⟨h, h'⟩
      · have hI : ¬ (l.length : Int) < n := by omega
        go_wp2_with fail
        go_ret
        exact ⟨_, _, rfl, FIN.out, hb⟩
      · have hI : (l.length : Int) < n := by omega
        have hI' : ¬ (l.length : Int) < 60 := by omega
        go_wp2_with fail
        go_ret
        exact ⟨_, _, rfl, FIN.out, hb⟩
end Go.Proofs.YtpligjkbnlfhgaaGreatDoor
