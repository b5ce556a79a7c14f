/- The walk of EstimateArms. -/
import Derived.Test.YtpligjkbnlfhgaaDoorArm
namespace Go.Proofs.YtpligjkbnlfhgaaDoor
open Go.RowKit

def cumR (f : Nat → Smp) (n : Nat) : Nat → Nat
  | 0 => 0
  | j + 1 => cumR f n j + cntR f ((j : Int) - 1) n
theorem cum_bd (f : Nat → Smp) (n : Nat) : ∀ j, cumR f n j ≤ j * n
  | 0 => by simp [cumR]
  | j + 1 => by have := cum_bd f n j; have := cnt_le f ((j : Int) - 1) n; rw [cumR, Nat.succ_mul]; omega
theorem cum_all {f : Nat → Smp} {n : Nat} (h : ∀ i, i < n → (f i).arm = 1 ∨ (f i).arm = 2) : cumR f n 5 = n := by
  have hn : ∀ a : Int, a ≠ 1 → a ≠ 2 → cntR f a n = 0 := fun a h1 h2 => cnt_none fun i hi e => by rcases h i hi with h' | h' <;> omega
  have h2 := cnt_two h
  have e0 := hn (-1) (by decide) (by decide)
  have e1 := hn 0 (by decide) (by decide)
  have e4 := hn 3 (by decide) (by decide)
  show 0 + cntR f (((0 : Nat) : Int) - 1) n + cntR f (((1 : Nat) : Int) - 1) n + cntR f (((2 : Nat) : Int) - 1) n + cntR f (((3 : Nat) : Int) - 1) n + cntR f (((4 : Nat) : Int) - 1) n = n
  have q0 : (((0 : Nat) : Int) - 1) = -1 := by omega
  have q1 : (((1 : Nat) : Int) - 1) = 0 := by omega
  have q2 : (((2 : Nat) : Int) - 1) = 1 := by omega
  have q3 : (((3 : Nat) : Int) - 1) = 2 := by omega
  have q4 : (((4 : Nat) : Int) - 1) = 3 := by omega
  rw [q0, q1, q2, q3, q4, e0, e1, e4]
  omega
theorem own_iv {w : World} {B n c : Nat} {A : Option Addr} {l : List Int} (h : Own intC 3 1 w B (.slice A n c) l) : IntsV w A n c (fun i => l.getD i 0) := (own_ints h fun _ _ => rfl).2

set_option maxRecDepth 100000 in
set_option maxHeartbeats 8000000 in
theorem estimateArms11 (a0 : Option Addr) (len0 cap0 : Nat) (z0 : List Int) (a1 : Int) (w : World) (w0 : IsRow .u8 w a0 len0 cap0 z0) (w1 : (Lit.int .i8 a1).wf = true) :
    Calls Tryd.prog 11 #[.slice a0 len0 cap0, .int .i8 a1] w fun e w' => e = .returned (.bool true) ∧ Below w.heap.size w w' := by
  have hab := bounds_i8 w1
  obtain ⟨hr, hf, hl, hlm⟩ := w0.rd
  have hL : ∀ w', Below w.heap.size w w' → BytesAt w' w'.heap.size a0 len0 := fun w' hb => ⟨fun i => z0.getD i 0, fun i hi => bounds_u8 (hf i hi), fun hn => by
    obtain ⟨b, off, hA, hbl, hc⟩ := hr hn
    refine ⟨b, off, hA, Nat.lt_of_lt_of_le hbl hb.size, fun i hi j u hu => ?_⟩
    have hj : j = 0 := by have := (List.getElem?_eq_some_iff.1 hu).1; simp at this; omega
    subst hj
    simp only [List.getElem?_cons_zero, Option.some.injEq] at hu
    rw [← hu, Nat.mul_one, Nat.add_zero]
    exact (hb.cell (p := ⟨b, off + i, none⟩) hbl).trans (hc i hi)⟩
  have HL := Lib.hid hL
  have hlen : len0 ≤ 9223372036854775807 := by unfold maxLen at hlm; omega
  clear hr hf hL w0 w1 hl hlm
  go_enter Tryd.func11, Tryd.ntmps11
  go_wp2_with fail
  refine (awake35 w).mono ?_
  rintro e u0 ⟨rfl, hb0⟩
  go_wp2_with fail
  refine (samples31 a0 len0 cap0 30 u0 hlen (by decide) (by decide) (HL.out u0 hb0)).mono ?_
  rintro e u1 ⟨v, l, rfl, hl40, hmade, hown, hb1⟩
  have hbr := below_trans' hb0 hb0.size hb1
  obtain ⟨A, cp, rfl, hcp⟩ := Own.shape hown
  have hrows := Own.rows (c := Smp.cells) Smp.len default hown
  obtain ⟨f, hf⟩ : ∃ f : Nat → Smp, (fun i => l.getD i default) = f := ⟨_, rfl⟩
  have hfm : ∀ i, i < l.length → (f i).arm = 1 ∨ (f i).arm = 2 := fun i hi => by
    rw [← hf]
    have : l.getD i default = l[i] := by rw [List.getD_eq_getElem?_getD, List.getElem?_eq_getElem hi]; rfl
    show (l.getD i default).arm = 1 ∨ (l.getD i default).arm = 2
    rw [this]
    exact (hmade _ (List.getElem_mem hi)).1
  obtain ⟨n, hn⟩ : ∃ n, l.length = n := ⟨_, rfl⟩
  have hrows' : RowsAt u1 u1.heap.size 10 A n (fun i => (f i).cells) := by rw [← hf, ← hn]; exact hrows
  rw [hn] at hl40 hcp hfm ⊢
  have HR : Hid (∀ w', Below u1.heap.size u1 w' → RowsAt w' w'.heap.size 10 A n (fun i => (f i).cells)) := Lib.hid fun w' h => (hrows'.below h (Nat.le_refl _)).more h.size
  have HC := Lib.hid (cum_all hfm)
  have HN : Hid (∀ a : Int, a ≠ 1 → a ≠ 2 → cntR f a n = 0) := Lib.hid fun a h1 h2 => cnt_none fun i hi e => by rcases hfm i hi with h' | h' <;> omega
  clear hrows hrows' hown hmade hfm hf hn hb1 hb0 HL hlen
  go_wp2_with fail
  go_loopg [6, 7, 8, 9, 10, 11, 12, 13] 6 (fun m nn kk _ _ _ _ _ _ wr => ∃ (j : Nat) (q : Int), j ≤ 5 ∧ m = 6 - j ∧ Hid (q = (j : Int) - 1) ∧ kk = .int .i64 q ∧ nn = .int .i64 (cumR f n j) ∧ Below u1.heap.size u1 wr)
  case atStart => exact ⟨0, -1, by omega, rfl, Lib.hid (by omega), rfl, rfl, Below.refl _ _⟩
  case round =>
  obtain ⟨j, q, hj, hm, hq, rfl, rfl, hbw⟩ := hrel
  have HM := Lib.hid hm
  have hqo := hq.out
  have hcb := cum_bd f n j
  have hcb2 : cumR f n j ≤ 200 := by
    have : j * n ≤ 5 * 40 := Nat.mul_le_mul hj hl40
    omega
  clear hm hcb
  by_cases hj5 : j < 5
  · have hqI : q ≤ 3 := by omega
    have hqb : -1 ≤ q := by omega
    have hsucc : cumR f n (j + 1) = cumR f n j + cntR f q n := by rw [cumR, hqo]
    have hcn := cnt_le f q n
    have HSU := Lib.hid hsucc
    obtain ⟨cm, hcm⟩ : ∃ c, cumR f n j = c := ⟨_, rfl⟩
    rw [hcm] at hcb2 hsucc ⊢
    obtain ⟨mm, hmm⟩ : ∃ c, cntR f q n = c := ⟨_, rfl⟩
    have P1 := fun w h => arm39 A n cp f q w (by omega) h
    have P2 := fun w h => arm40 A n cp f q w (by omega) h
    rw [hmm] at P1 P2 hcn
    have H1 := Lib.hid P1
    have H2 := Lib.hid P2
    have HCM := Lib.hid hcm
    have HMM := Lib.hid hmm
    clear P1 P2 hsucc hqo hcm hmm
    go_wp2_with fail
    refine (H1.out _ (HR.out _ hbw)).mono ?_
    rintro e w1 ⟨B1, d1, B2, d2, B3, d3, rfl, o1, o2, o3, hx1⟩
    have hbw1 := below_trans' hbw hbw.size hx1
    go_wp2_with fail
    refine (H2.out _ (HR.out _ hbw1)).mono ?_
    rintro e w2 ⟨C1, e1, C2, e2, C3, e3, rfl, p1, p2, p3, hx2⟩
    have hbw2 := below_trans' hbw1 hbw1.size hx2
    have i1 := own_iv (Own.below o1 hx2)
    have i2 := own_iv (Own.below o2 hx2)
    have i3 := own_iv (Own.below o3 hx2)
    have k1 := own_iv p1
    have k2 := own_iv p2
    have k3 := own_iv p3
    clear o1 o2 o3 p1 p2 p3 hx1 hx2 hbw1
    go_wp2_with fail
    refine (same41 B1 C1 mm d1 e1 _ w2 i1 k1 (by omega)).mono ?_
    rintro e w3 ⟨rfl, hx3⟩
    have hbw3 := below_trans' hbw2 hbw2.size hx3
    go_wp2_with fail
    refine (same41 B2 C2 mm d2 e2 _ w3 (i2.below hx3) (k2.below hx3) (by omega)).mono ?_
    rintro e w4 ⟨rfl, hx4⟩
    have hbw4 := below_trans' hbw3 hbw3.size hx4
    have hx34 := below_trans' hx3 hx3.size hx4
    go_wp2_with fail
    refine (same41 B3 C3 mm d3 e3 _ w4 (i3.below hx34) (k3.below hx34) (by omega)).mono ?_
    rintro e w5 ⟨rfl, hx5⟩
    have hbw5 := below_trans' hbw4 hbw4.size hx5
    clear i1 i2 i3 k1 k2 k3 hx3 hx4 hx34 hx5 hbw2 hbw3 hbw4
    go_wp2_with fail
    go_roundg (6 - (j + 1))
    case measure => have := HM.out; omega
    case rel => exact ⟨j + 1, q + 1, by omega, rfl, Lib.hid (by have := hq.out; omega), by go_num, by rw [HSU.out, HCM.out, HMM.out]; go_num, hbw5⟩
  · have hj' : j = 5 := by omega
    subst hj'
    have hqI : ¬ q ≤ 3 := by omega
    have hce := HC.out
    rw [hce]
    clear hqo hce hcb2 hq HC
    have P1 := fun w h => arm39 A n cp f a1 w (by omega) h
    have hcn := cnt_le f a1 n
    have hca : a1 = 1 ∨ a1 ≠ 1 ∧ (a1 = 2 ∨ a1 ≠ 2 ∧ cntR f a1 n = 0) := by
      by_cases h1 : a1 = 1
      · exact .inl h1
      · by_cases h2 : a1 = 2
        · exact .inr ⟨h1, .inl h2⟩
        · exact .inr ⟨h1, .inr ⟨h2, HN.out a1 h1 h2⟩⟩
    obtain ⟨mm, hmm⟩ : ∃ c, cntR f a1 n = c := ⟨_, rfl⟩
    rw [hmm] at P1 hcn hca
    have H1 := Lib.hid P1
    have HCA := Lib.hid hca
    clear P1 hmm hca HN
    go_wp2_with fail
    refine (H1.out _ (HR.out _ hbw)).mono ?_
    rintro e w1 ⟨B1, d1, B2, d2, B3, d3, rfl, -, -, -, hx1⟩
    have hbe := below_trans' hbr hbr.size (below_trans' hbw hbw.size hx1)
    clear hx1 hbw hbr
    rcases HCA.out with h1 | ⟨h1, h2 | ⟨h2, h3⟩⟩
    · go_wp2_with fail
      go_ret
      exact ⟨rfl, hbe⟩
    · go_wp2_with fail
      go_ret
      exact ⟨rfl, hbe⟩
    · go_wp2_with fail
      go_ret
      exact ⟨rfl, hbe⟩
end Go.Proofs.YtpligjkbnlfhgaaDoor
