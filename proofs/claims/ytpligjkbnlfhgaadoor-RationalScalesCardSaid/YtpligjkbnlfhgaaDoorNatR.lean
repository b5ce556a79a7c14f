/- Long numbers: a copy of a number; what long division begins with. -/
import Derived.Test.YtpligjkbnlfhgaaDoorNatQ
namespace Go.Proofs.YtpligjkbnlfhgaaDoor
open Go.RowKit

def digs (f : Nat → Nat) (n : Nat) : List Nat := (List.range n).map f
theorem digs_len (f : Nat → Nat) (n : Nat) : (digs f n).length = n := by simp [digs]
theorem dl_digs {f : Nat → Nat} {n j : Nat} (h : j < n) : dl (digs f n) j = f j := by simp [dl, digs, h]

set_option maxRecDepth 100000 in
set_option maxHeartbeats 1000000 in
theorem clone112 (A : Option Addr) (n c : Nat) (f : Nat → Nat) (w : World) (hn0 : 0 < n) (hn : n ≤ 4194304) (h : RdD w A n f) :
    Calls Tryd.prog 112 #[.slice A n c] w fun e w' => ∃ v, e = .returned v ∧ OwnD 90 w' w.heap.size v (digs f n) ∧ Below w.heap.size w w' := by
  obtain ⟨b, off, rfl, hb, hcell⟩ := h hn0
  obtain ⟨i0, hi, hz0, hz1, hz2⟩ := info_parts infoU
  have hnews : ∀ j u, ((digs f n).map u32V)[j]? = some u → (w.alloc (.cells #[] 90)).cell? ((⟨b, off, none⟩ : Addr).add j) = some u := fun j u hu => by
    have hj : j < n := by have := (List.getElem?_eq_some_iff.1 hu).1; simpa [digs] using this
    rw [Go.WideShapes.add_plain]
    have e : ((digs f n).map u32V)[j]? = some (u32V (f j)) := by simp [digs, hj]
    rw [e] at hu
    rw [← hu, ← hcell j hj]
    exact ((Below.refl _ _).alloc (Nat.le_refl _) _ : Below w.heap.size w _).cell (p := ⟨b, off + j, none⟩) hb
  have hlen : ((digs f n).map u32V).length = n * 1 := by simp [digs]
  have hone : ∀ u ∈ (digs f n).map u32V, u.oneCell' = true := fun u hu => by
    obtain ⟨x, _, rfl⟩ := List.mem_map.1 hu
    rfl
  have hg := heap_alloc_new w (.cells #[] 90)
  have hown : (w.alloc (.cells #[] 90)).ownsRow w.heap.size 90 1 (.slice (some ⟨w.heap.size, 0, none⟩) 0 0) 0 [] := ⟨by simp, .inr ⟨w.heap.size, 0, #[], rfl, Nat.le_refl _, hg, Nat.le_refl _, Nat.zero_le _, by simp, by simp⟩⟩
  have hbel : Below w.heap.size w (w.alloc (.cells #[] 90)) := (Below.refl _ _).alloc (Nat.le_refl _) _
  have hnil := fun w => Lib.run_eql_slice_nil (P := Tryd.prog) w 80 90 (some ⟨b, off, none⟩) n c 0 0 Tryd.underlying80
  have HN := Lib.hid hnews
  clear hcell hnews h
  go_enter Tryd.func112, Tryd.ntmps112
  go_wp2_with (at_builtin; refine wpList_append_lies _ (by rfl) (.tmp 5) (.tmp 6) 80 (by rfl) w.heap.size 90 i0 _ 1 4 Tryd.underlying80 hi hz0 hz1 hz2 rfl (by omega) _ _ _ (by rfl) hown ⟨b, off, none⟩ n c ((digs f n).map u32V) (by rfl) hlen HN.out hone (by omega) (by unfold maxLen; omega) (by omega) (by simp) (w.heap.size + 1) (by simp) ?_; intro g' cap' w6 hown6 hgrow hat hlt6)
  have hb6 : Below w.heap.size w w6 := hbel.grown hgrow hbel.size (fun q hq => (World.ownsRow.lt hown q hq).1)
  simp only [Nat.zero_add, List.nil_append] at hown6
  have ho : OwnD 90 w6 w.heap.size (.slice (some ⟨g', 0, none⟩) n cap') (digs f n) := by
    unfold OwnD
    rw [digs_len]
    exact hown6
  clear hown6 hgrow hat hown hg
  go_wp2_with fail
  go_ret
  exact ⟨_, rfl, ho, hb6⟩
end Go.Proofs.YtpligjkbnlfhgaaDoor
