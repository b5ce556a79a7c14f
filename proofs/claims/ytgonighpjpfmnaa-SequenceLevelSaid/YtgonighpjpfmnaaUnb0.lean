/- A copy by append in the midst of a region; the two scores of a subject. No statement is proved here. -/
import Derived.Test.YtgonighpjpfmnaaLate4
import Derived.Test.YtgonighpjpfmnaaPast0
import Derived.Test.YtgonighpjpfmnaaOfBoth
namespace Go.Proofs.Ytgonighpjpfmnaa
open Go.RowKit

set_option maxHeartbeats 600000 in
theorem empty_append (S : Nat) (l : List Smp) (x : Smp) {w : World} (hS : S ≤ w.heap.size) (hl : l.length ≤ 100000) {v59 : Value} (h59 : P59 S v59 w) (A : Option Addr) (cp : Nat) (h : RowsAt w w.heap.size 10 A l.length fun i => (l.getD i default).cells) :
    ∃ v w', (Builtin.append_ #[25, 25] 25 #[v59, .slice A l.length cp]).run Try.prog w = .ok v w' ∧ RK S l x w w' ∧ P61 S l v w' := by
  obtain ⟨i0, hi, hz0, hz1, hz2⟩ := info_parts info34
  obtain ⟨g, rfl, hg, hb⟩ := h59
  by_cases h0 : l.length = 0
  · have hl0 : l = [] := List.eq_nil_of_length_eq_zero h0
    subst hl0
    have hsrc : Go.Src Try.prog i0.size 25 (.slice A 0 cp) 0 [] w := by
      cases A with
      | none => exact Go.Src.ofNil w Try.underlying25 cp
      | some ad => exact Go.Src.ofSlice w Try.underlying25 ad 0 cp [] (by simp) (fun j u hu => by simp at hu) (fun u hu => by cases hu)
    have hs := run_append_room_src (P := Try.prog) w 25 25 25 34 i0 Try.underlying25 hi g 0 0 0 (.slice A 0 cp) 0 [] hsrc (by omega) (by simp) (by simp)
    exact ⟨_, _, hs, RK.refl _ _ _ _, own_empty hb hg, g, 0, rfl, fun _ => rfl⟩
  · obtain ⟨b, off, rfl, hbb, hc⟩ := h (by omega)
    have hmap : (List.range l.length).map (fun i => l.getD i default) = l := by
      apply List.ext_getElem?
      intro i
      rw [List.getElem?_map]
      by_cases hil : i < l.length
      · rw [List.getElem?_range hil, List.getElem?_eq_getElem hil, Option.map_some, List.getD_eq_getElem?_getD, List.getElem?_eq_getElem hil]; rfl
      · rw [List.getElem?_eq_none (by simp; omega), List.getElem?_eq_none (by omega)]; rfl
    obtain ⟨v', w', hr, h2, hg3⟩ := run_append_arg_grows (P := Try.prog) w 25 25 34 i0 _ 10 96 Try.underlying25 hi hz0 hz1 hz2 rfl (by omega) ⟨g, 0, none⟩ 0 0 [] (by simp) (fun j u hu => by simp at hu) ⟨b, off, none⟩ l.length cp (l.flatMap Smp.cells) (by rw [flat_len Smp.cells 10 Smp.len]) (fun j u hu => by
        rw [Go.WideShapes.add_plain]
        exact rows_flat (f := fun i => l.getD i default) Smp.len (by omega) h j u (by rw [hmap]; exact hu)) (by omega) (by unfold maxLen; omega) (by omega)
    rw [Nat.zero_add, List.nil_append] at h2
    have hown : OwnSmp w' w.heap.size v' l := h2
    refine ⟨v', w', hr, RK.of_le S l x hS (below_of_grownBy hg3), Own.mono hown hS, ?_⟩
    rcases h2.2 with ⟨_, hn0⟩ | ⟨g', cap', cur, hv', _⟩
    · exact absurd hn0 h0
    · exact ⟨g', cap', hv', fun h => absurd h h0⟩

/-- The list with one more sample. -/
theorem snoc_get {l : List Smp} {x : Smp} : (∀ i, i < l.length → (l ++ [x]).getD i default = l.getD i default) ∧ (l ++ [x]).getD l.length default = x := by
  refine ⟨fun i hi => getD_append_l hi, ?_⟩
  rw [List.getD_eq_getElem?_getD, List.getElem?_append_right (Nat.le_refl _)]
  simp

theorem snoc_of {l : List Smp} {x : Smp} {cap c t : Int} {adj : Bool} (h : ∀ s ∈ l, Smp.made cap s) (hx : 0 ≤ x.value ∧ x.value ≤ cap) (ha : x.arm = 1 ∨ x.arm = 2) (hc : 1 ≤ c ∧ c ≤ 10000) (ht : 1 ≤ t ∧ t ≤ 10000) (hcap : 1 ≤ cap ∧ cap ≤ 1048576) :
    ofR (fun i => (l ++ [x]).getD i default) (l.length + 1) l.length c t cap adj = some (if x.arm = 1 then c * t * ((if adj then predI (fun i => (l ++ [x]).getD i default) l.length 2 cap else 0) - (if adj then predI (fun i => (l ++ [x]).getD i default) l.length 1 cap else 0)) - (c + t) * t * (x.value - (if adj then predI (fun i => (l ++ [x]).getD i default) l.length 1 cap else 0)) else c * t * ((if adj then predI (fun i => (l ++ [x]).getD i default) l.length 2 cap else 0) - (if adj then predI (fun i => (l ++ [x]).getD i default) l.length 1 cap else 0)) + (c + t) * c * (x.value - (if adj then predI (fun i => (l ++ [x]).getD i default) l.length 2 cap else 0)), c * t * cap, cap * (2 * (c * t) + (c + t) * max c t)) := by
  have hv : okV (fun i => (l ++ [x]).getD i default) cap (l.length + 1) = true := by
    simp only [okV, Bool.and_eq_true, decide_eq_true_eq]
    refine ⟨?_, by rw [snoc_get.2]; exact hx.1, by rw [snoc_get.2]; exact hx.2⟩
    rw [okV_congr (f' := fun i => l.getD i default) _ fun i hi => snoc_get.1 i hi]
    exact made_okV h l.length (Nat.le_refl _)
  have hp : ∀ arm, predT (fun i => (l ++ [x]).getD i default) (l.length + 1) l.length arm cap = predI (fun i => (l ++ [x]).getD i default) l.length arm cap := fun arm => by
    unfold predT
    rw [if_pos (show (0 : Int) ≤ (l.length : Int) ∧ (l.length : Int) < ((l.length + 1 : Nat) : Int) by omega)]
    rfl
  unfold ofR
  rw [if_pos ⟨by omega, by omega, by simp [vldWI]; omega, hcap.1, hcap.2, by simpa using hv⟩]
  simp only [Int.toNat_natCast, hp, snoc_get.2]
  rcases ha with ha | ha <;> simp [ha]

def uS (arm y b : Int) : Smp := ⟨⟨#[]⟩, ⟨#[]⟩, 0, 0, arm, 0, y, 0, b, false⟩

theorem two_scores {l : List Smp} {c t y z b cap : Int} {adj : Bool} (h : ∀ s ∈ l, Smp.made cap s) (hy : 0 ≤ y ∧ y ≤ cap) (hz : 0 ≤ z ∧ z ≤ cap) (hc : 1 ≤ c ∧ c ≤ 10000) (ht : 1 ≤ t ∧ t ≤ 10000) (hcap : 1 ≤ cap ∧ cap ≤ 1048576) :
    ∃ X1 X2 U R, ofR (fun i => (l ++ [uS 1 y b]).getD i default) (l.length + 1) l.length c t cap adj = some (X1, U, R) ∧ ofR (fun i => (l ++ [uS 2 z b]).getD i default) (l.length + 1) l.length c t cap adj = some (X2, U, R) ∧ U = c * t * cap ∧ c * X1 + t * X2 = c * t * (c + t) * (z - y) ∧ vldS X1 U R = true ∧ vldS X2 U R = true := by
  have e1 := snoc_of (x := uS 1 y b) (adj := adj) h hy (.inl rfl) hc ht hcap
  have e2 := snoc_of (x := uS 2 z b) (adj := adj) h hz (.inr rfl) hc ht hcap
  have hp : ∀ arm, predI (fun i => (l ++ [uS 2 z b]).getD i default) l.length arm cap = predI (fun i => (l ++ [uS 1 y b]).getD i default) l.length arm cap := fun arm =>
    predI_congr (by rw [snoc_get.2, snoc_get.2]; rfl) fun i hi => by rw [snoc_get.1 i hi, snoc_get.1 i hi]
  rw [hp 1, hp 2] at e2
  have h1 : (uS 1 y b).arm = 1 := rfl
  have h2 : ¬ (uS 2 z b).arm = 1 := by show ¬ (2 : Int) = 1; omega
  rw [if_pos h1] at e1
  rw [if_neg h2] at e2
  refine ⟨_, _, _, _, e1, e2, rfl, ?_, ofR_valid e1, ofR_valid e2⟩
  show c * (c * t * (_ - _) - (c + t) * t * (y - _)) + t * (c * t * (_ - _) + (c + t) * c * (z - _)) = _
  grind

theorem snoc_in {l : List Smp} {x : Smp} {cap : Int} (h : ∀ s ∈ l, Smp.made cap s) (hcap : cap ≤ 1099511627776) (hx : 0 ≤ x.value ∧ x.value ≤ cap) (hb : 0 ≤ x.before ∧ x.before ≤ 255) : InSmp (fun i => (l ++ [x]).getD i default) (l.length + 1) := fun i hi => by
  by_cases hil : i < l.length
  · dsimp only
    rw [snoc_get.1 i hil]
    exact Smp.made_in hcap h i hil
  · have hi2 : i = l.length := by omega
    subst hi2
    dsimp only
    rw [snoc_get.2]
    omega
end Go.Proofs.Ytgonighpjpfmnaa
