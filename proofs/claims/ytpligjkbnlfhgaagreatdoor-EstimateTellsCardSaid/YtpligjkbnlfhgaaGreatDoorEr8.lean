/- Chapter 38: program and reference hand back the same. No statement is proved here. -/
import Derived.Test.YtpligjkbnlfhgaaGreatDoorEr7
import Derived.Test.YtpligjkbnlfhgaaGreatDoorEstW
import Derived.Test.YtpligjkbnlfhgaaGreatDoorNumC
namespace Go.Proofs.YtpligjkbnlfhgaaGreatDoor
open Go.RowKit

/-- Both functions hand back this value and make memory. -/
def Two (p q : FuncId) (args : Array Value) (c : Value) (w : World) : Prop :=
  (Calls Tryz.prog p args w fun e w' => e = .returned c ∧ Below w.heap.size w w') ∧ (Calls Tryz.prog q args w fun e w' => e = .returned c ∧ Below w.heap.size w w')
abbrev ratT (X Y : ByteArray) (ok : Bool) : Value := .tuple #[.agg #[.string X, .string Y], .bool ok]
abbrev estT (n : Int) (X Y V W : ByteArray) (ok : Bool) : Value := .tuple #[estV n X Y V W, .bool ok]
theorem tx_of {a b : Nat} {x : Rat} (h : E2 a b x) (ha : a ≤ 1300) (hb : b ≤ 1300) : ∃ X Y, Tx X Y x := by
  obtain ⟨X, Y, -, h⟩ := txV_tx (h.fits ha hb)
  exact ⟨X, Y, h⟩

theorem mean_two (A : Option Addr) (n c : Nat) (f : Nat → Int) : ∃ X Y ok, ∀ w, IntsV w A n c f → Two 15 16 #[.slice A n c] (ratT X Y ok) w := by
  by_cases h : 1 ≤ n ∧ Fit f n
  · obtain ⟨X, Y, h'⟩ := tx_of (mean_E2 h.2 h.1) (by omega) (by omega)
    exact ⟨X, Y, true, fun w hl => ⟨mean44 A n c f X Y w hl h.2 h.1 h', mean16 A n c f X Y w hl h.2 h.1 h'⟩⟩
  · exact ⟨_, _, _, fun w hl => ⟨mean44_bad A n c f w hl h, mean16_bad A n c f w hl h⟩⟩
theorem cov_two (A B : Option Addr) (n m ca cb : Nat) (f g : Nat → Int) : ∃ X Y ok, ∀ w, IntsV w A n ca f → IntsV w B m cb g → Two 17 18 #[.slice A n ca, .slice B m cb] (ratT X Y ok) w := by
  by_cases h : m = n ∧ 2 ≤ n ∧ Fit f n ∧ Fit g n
  · obtain ⟨rfl, h2, hf, hg⟩ := h
    obtain ⟨X, Y, h'⟩ := tx_of (cov_E2 hf hg h2) (by omega) (by omega)
    exact ⟨X, Y, true, fun w hl hm => ⟨covariance43 A B m ca cb f g X Y w hl hm hf hg h2 h', cov18 A B m ca cb f g X Y w hl hm hf hg h2 h'⟩⟩
  · exact ⟨_, _, _, fun w hl hm => ⟨covariance43_bad A B n m ca cb f g w hl hm h, cov18_bad A B n m ca cb f g w hl hm h⟩⟩
theorem of_two (A : Option Addr) (n c : Nat) (f : Nat → Int) : ∃ N X Y V W ok, ∀ w, IntsV w A n c f → Two 24 7 #[.slice A n c] (estT N X Y V W ok) w := by
  by_cases h : 2 ≤ n ∧ Fit f n
  · obtain ⟨X, Y, h'⟩ := tx_of (mean_E2 h.2 (by omega)) (by omega) (by omega)
    obtain ⟨V, W, h''⟩ := tx_of (var_E2 h.2 h.1) (by omega) (by omega)
    exact ⟨n, X, Y, V, W, true, fun w hl => ⟨of36 A n c f X Y V W w hl h.2 h.1 h' h'', of7 A n c f X Y V W w hl h.2 h.1 h' h''⟩⟩
  · exact ⟨_, _, _, _, _, _, fun w hl => ⟨of36_bad A n c f w hl h, of7_bad A n c f w hl h⟩⟩
theorem ratio_two (A B : Option Addr) (n m ca cb : Nat) (f g : Nat → Int) : ∃ N X Y V W ok, ∀ w, IntsV w A n ca f → IntsV w B m cb g → Two 19 20 #[.slice A n ca, .slice B m cb] (estT N X Y V W ok) w := by
  by_cases h : m = n ∧ 2 ≤ n ∧ Fit f n ∧ Fit g n
  · obtain ⟨rfl, h2, hf, hg⟩ := h
    by_cases h0 : sumF g m = 0
    · exact ⟨_, _, _, _, _, _, fun w hl hm => ⟨ratio45_zero A B m ca cb f g w hl hm h2 hf hg h0, ratio20_zero A B m ca cb f g w hl hm h2 hf hg h0⟩⟩
    · obtain ⟨X, Y, h'⟩ := tx_of (ratR_E2 hf hg h0) (by omega) (by omega)
      obtain ⟨V, W, h''⟩ := tx_of (ratV_E2 hf hg h2 h0) (by omega) (by omega)
      exact ⟨m, X, Y, V, W, true, fun w hl hm => ⟨ratio45 A B m ca cb f g X Y V W w hl hm hf hg h2 h0 h' h'', ratio20 A B m ca cb f g X Y V W w hl hm hf hg h2 h0 h' h''⟩⟩
  · exact ⟨_, _, _, _, _, _, fun w hl hm => ⟨ratio45_bad A B n m ca cb f g w hl hm h, ratio20_bad A B n m ca cb f g w hl hm h⟩⟩
theorem adj_two (A B : Option Addr) (n m ca cb : Nat) (f g : Nat → Int) (C1 C2 : ByteArray) (hC1 : C1.size ≤ maxLen) (hC2 : C2.size ≤ maxLen) : ∃ N X Y V W ok, ∀ w, IntsV w A n ca f → IntsV w B m cb g → Two 21 22 #[.slice A n ca, .slice B m cb, .agg #[.string C1, .string C2]] (estT N X Y V W ok) w := by
  by_cases h : m = n ∧ 2 ≤ n ∧ Fit f n ∧ Fit g n ∧ cenOk C1 C2
  · obtain ⟨rfl, h2, hf, hg, hc, h1, h3⟩ := h
    obtain ⟨c, hc⟩ := Option.isSome_iff_exists.1 hc
    have TC := Tx.of_rd hc
    obtain ⟨X, Y, h'⟩ := tx_of (adjM_E2 hf hg h2 (cen_E2 TC h1 h3)).2.2 (by omega) (by omega)
    obtain ⟨V, W, h''⟩ := tx_of (adjV_E2 hf hg h2).2.2.2.2.2.2 (by omega) (by omega)
    exact ⟨m, X, Y, V, W, true, fun w hl hm => ⟨adjusted46 A B m ca cb f g c C1 C2 X Y V W w hl hm hf hg h2 TC h1 h3 h' h'', adj22 A B m ca cb f g c C1 C2 X Y V W w hl hm hf hg h2 TC h1 h3 h' h''⟩⟩
  · exact ⟨_, _, _, _, _, _, fun w hl hm => adj_bad A B n m ca cb f g C1 C2 hC1 hC2 h w hl hm⟩

/-- A fraction of the laws: also where the divisor is zero. -/
theorem frac_zero {a : Int} (ha1 : -9223372036854775808 ≤ a) (ha2 : a ≤ 9223372036854775807) (hf : fitsR (frQ a 3)) :
    ∃ A B, Tx A B (frQ a 3) ∧ Gives 9 #[.int .i64 a, .int .i64 0] A B := by
  obtain ⟨A, B, h1, h2⟩ := txV_tx hf
  refine ⟨A, B, h2, fun w => ?_⟩
  have hof := fun w => of22 a 3 w ha1 ha2 (by decide) (by decide)
  have e : ofT a 3 = wrR (frQ a 3) := ofT_fr (by decide)
  rw [e, h1] at hof
  have HO := Lib.hid hof
  have g0 := heap_alloc_new w (.cells #[.string ⟨#[]⟩, .string ⟨#[]⟩] 26)
  have hbW : Below w.heap.size w (w.alloc (.cells #[.string ⟨#[]⟩, .string ⟨#[]⟩] 26)) := (Below.refl _ _).alloc (Nat.le_refl _) _
  clear hof e h1
  go_enter Tryz.func9, Tryz.ntmps9
  go_wp2_with fail
  generalize w.alloc (.cells #[.string ⟨#[]⟩, .string ⟨#[]⟩] 26) = W at *
  refine (HO.out W).mono ?_
  rintro e w1 ⟨rfl, hb1⟩
  have hst := below_trans' hb1 hb1.size ((Below.refl w1.heap.size w1).alloc (Nat.le_refl _) (.cells #[.string A, .string B] 26))
  have G0 := blk_below hst g0
  have z0 := free_of_block G0
  have z1 := cells2 G0
  have y2 := cells2 (heap_alloc_new w1 (.cells #[.string A, .string B] 26))
  have hB := below_trans' hbW hbW.size hst
  go_wp2_with fail
  obtain ⟨t0, t1⟩ := ret2 (A := A) (B := B) G0
  have hbe := below_sets2 hB (Nat.le_refl _) (.string A) (.string B)
  exact bodyPost_ret (v := .agg #[.string A, .string B]) (by simp [results, Tryz.results9, go_sem, t0, t1]) rfl ⟨rfl, hbe⟩
theorem q_E2 {a b : Int} (hb : b ≠ 0) (ha1 : -9223372036854775808 ≤ a) (ha2 : a ≤ 9223372036854775807) (hb1 : -9223372036854775808 ≤ b) (hb2 : b ≤ 9223372036854775807) : E2 63 63 (frQ a b) :=
  E2.of_int hb (by simp; omega) (by simp; omega)
theorem frac_any {a b : Int} (ha1 : -9223372036854775808 ≤ a) (ha2 : a ≤ 9223372036854775807) (hb1 : -9223372036854775808 ≤ b) (hb2 : b ≤ 9223372036854775807) :
    ∃ A B x, Tx A B x ∧ Gives 9 #[.int .i64 a, .int .i64 b] A B := by
  by_cases hb : b = 0
  · subst hb
    obtain ⟨A, B, h1, h2⟩ := frac_zero ha1 ha2 ((q_E2 (b := 3) (by decide) ha1 ha2 (by decide) (by decide)).fits (by decide) (by decide))
    exact ⟨A, B, _, h1, h2⟩
  · obtain ⟨A, B, h1, h2⟩ := frac37 hb ha1 ha2 hb1 hb2 ((q_E2 hb ha1 ha2 hb1 hb2).fits (by decide) (by decide))
    exact ⟨A, B, _, h1, h2⟩
end Go.Proofs.YtpligjkbnlfhgaaGreatDoor
