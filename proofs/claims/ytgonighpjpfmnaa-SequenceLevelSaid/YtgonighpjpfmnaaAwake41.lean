/- The sanity check of flagstonelaw41 returns true. -/
import Derived.Test.YtgonighpjpfmnaaSeq3
namespace Go.Proofs.Ytgonighpjpfmnaa
open Go.RowKit Go.Maps

theorem searchN_false {p : Int → Bool} : ∀ (fuel : Nat) (i j : Int), i ≤ j → j - i < fuel → (∀ h, i ≤ h → h < j → p h = false) → searchN p fuel i j = i
  | 0, i, j, h, hf, _ => by omega
  | fuel + 1, i, j, h, hf, hp => by
    rw [searchN]
    split
    · rw [if_neg (by rw [hp _ (by omega) (by omega)]; decide)]
      exact searchN_false fuel i _ (by omega) (by omega) fun h h1 h2 => hp h h1 (by omega)
    · rfl

/-- Binary search finds the place where a falling predicate turns. -/
theorem searchN_spec {p : Int → Bool} : ∀ (fuel : Nat) (i j : Int), i ≤ j → j - i < fuel → (∀ a b, i ≤ a → a ≤ b → b < j → p b = true → p a = true) → ∀ h, i ≤ h → h < j → (p h = true ↔ h < searchN p fuel i j)
  | 0, i, j, h, hf, _ => by omega
  | fuel + 1, i, j, hij, hf, hm => fun h h1 h2 => by
    rw [searchN, if_pos (by omega)]
    split
    · rename_i hp
      by_cases hh : h ≤ (i + j) / 2
      · have hb := searchN_bd p fuel ((i + j) / 2 + 1) j (by omega)
        exact ⟨fun _ => by omega, fun _ => hm h _ h1 hh (by omega) hp⟩
      · exact searchN_spec fuel _ j (by omega) (by omega) (fun a b ha hab hb hpb => hm a b (by omega) hab hb hpb) h (by omega) h2
    · rename_i hp
      by_cases hh : h < (i + j) / 2
      · exact searchN_spec fuel i _ (by omega) (by omega) (fun a b ha hab hb hpb => hm a b ha hab (by omega) hpb) h h1 hh
      · have hb := searchN_bd p fuel i ((i + j) / 2) (by omega)
        refine ⟨fun hph => absurd (hm _ h (by omega) (by omega) h2 hph) hp, fun _ => by omega⟩

theorem exR_iff {f : Nat → Scr} {up : Bool} {thr : Int} {n : Nat} {e : Int} : exR f up thr n e = true ↔ ∃ i, i < n ∧ thr ≤ meanAt f e up (i + 1) := by
  rw [exR, decide_eq_true_eq, firstN_pos]
  constructor
  · rintro ⟨i, hi, h⟩
    rw [pathR_getD f e up n i hi] at h
    exact ⟨i, hi, h⟩
  · rintro ⟨i, hi, h⟩
    exact ⟨i, hi, by rw [pathR_getD f e up n i hi]; exact h⟩

theorem lowR_none {f : Nat → Scr} {level : Int} {n : Nat} (hn : n ≤ 1048576) (h : ∀ e, -1000 ≤ e → e ≤ 1000 → exR f true (thrI level 2) n e = false) : lowR f level n = -1000 := by
  unfold lowR endI
  rw [if_pos rfl, searchN_false 2002 0 2001 (by omega) (by omega) (fun k h1 h2 => by rw [numX_le _ _ _ _ _ hn]; exact h _ (by omega) (by omega))]
  rfl
theorem highR_none {f : Nat → Scr} {level : Int} {n : Nat} (hn : n ≤ 1048576) (h : ∀ e, -1000 ≤ e → e ≤ 1000 → exR f false (thrI level 2) n e = false) : highR f level n = 1000 := by
  unfold highR endI
  rw [if_neg (by decide), searchN_false 2002 0 2001 (by omega) (by omega) (fun k h1 h2 => by rw [numX_le _ _ _ _ _ hn]; exact h _ (by omega) (by omega))]
  rfl
theorem exR_false {f : Nat → Scr} {up : Bool} {thr : Int} {n : Nat} {e : Int} (h : ∀ i, i < n → meanAt f e up (i + 1) < thr) : exR f up thr n e = false := by
  cases hx : exR f up thr n e with
  | false => rfl
  | true => obtain ⟨i, hi, ht⟩ := exR_iff.1 hx; have := h i hi; omega

def awS : Scr := ⟨10, 10, 20⟩

theorem aw_down (e : Int) (h1 : -1000 ≤ e) (h2 : e ≤ 1000) (b : Int) (hb : b = 1 ∨ b = 2 ∨ b = 4) : ∀ k, wAt (fun _ => awS) e false b k ≤ 4294967296
  | 0 => Int.le_refl _
  | k + 1 => by
    have ih := aw_down e h1 h2 b hb k
    have hw := wAt_bd (fun _ => awS) e false b k
    have hok : facOk 10 10 20 e b = true := facOk_iff.2 (by omega)
    have hD : facD 10 10 20 e b = 160000 := by rw [facD, if_pos hok]; rfl
    have hN : facN 10 10 20 e b false = 160000 - b * (10000 - 10 * e) := by rw [facN, if_pos hok, if_neg (by decide)]; unfold gainI; rw [show (10 : Int) * 1000 = 10000 from rfl]; rfl
    have hg : 0 ≤ b * (10000 - 10 * e) := Int.mul_nonneg (by omega) (by omega)
    have hg2 := gain_bd (n := 10) (u := 10) (r := 20) (e := e) (b := b) hok
    unfold gainI at hg2
    rw [show (10 : Int) * 1000 = 10000 from rfl] at hg2
    show growI (wAt (fun _ => awS) e false b k) (facN 10 10 20 e b false) (facD 10 10 20 e b) ≤ 4294967296
    rw [hD, hN]
    have hm := growI_mul_le (w := wAt (fun _ => awS) e false b k) (num := 160000 - b * (10000 - 10 * e)) (den := 160000) hw.1 (by omega) (by omega)
    have hp : wAt (fun _ => awS) e false b k * (160000 - b * (10000 - 10 * e)) ≤ 4294967296 * 160000 := Int.mul_le_mul ih (by omega) (by omega) (by omega)
    omega

/-- The wealth of the bet 4 at the effect 0. -/
def awN : Nat → Nat
  | 0 => 4294967296
  | k + 1 => awN k * 200000 / 160000

theorem aw_up : ∀ k, awN k ≤ 2305843009213693952 → (∀ j, j < k → awN j ≤ 2305843009213693952) → wAt (fun _ => awS) 0 true 4 k = awN k
  | 0, _, _ => rfl
  | k + 1, h, hj => by
    have ih := aw_up k (hj k (by omega)) (fun j hjk => hj j (by omega))
    have hD : facD 10 10 20 0 4 = 160000 := by decide
    have hN : facN 10 10 20 0 4 true = 200000 := by decide
    show growI (wAt (fun _ => awS) 0 true 4 k) (facN 10 10 20 0 4 true) (facD 10 10 20 0 4) = _
    have := hj k (by omega)
    rw [hD, hN, ih, growI, if_neg (by omega)]
    have e : ((awN k : Nat) : Int) * 200000 / 160000 = ((awN k * 200000 / 160000 : Nat) : Int) := by simp
    rw [e]
    have h' : awN k * 200000 / 160000 ≤ 2305843009213693952 := h
    rw [show awN (k + 1) = awN k * 200000 / 160000 from rfl]
    omega

theorem aw_big : 515396075520 ≤ awN 24 ∧ ∀ j, j < 25 → awN j ≤ 2305843009213693952 := by
  refine ⟨by decide, ?_⟩
  decide

theorem aw_ex : exR (fun _ => awS) true (thrI 50 2) 30 0 = true := by
  refine exR_iff.2 ⟨23, by omega, ?_⟩
  have h := aw_up 24 (aw_big.2 24 (by omega)) (fun j hj => aw_big.2 j (by omega))
  have h1 := wAt_bd (fun _ => awS) 0 true 1 24
  have h2 := wAt_bd (fun _ => awS) 0 true 2 24
  have h3 := aw_big.1
  have ht : thrI 50 2 = 171798691840 := by decide
  change _ ≤ (wAt (fun _ => awS) 0 true 1 24 + wAt (fun _ => awS) 0 true 2 24 + wAt (fun _ => awS) 0 true 4 24) / 3
  rw [h, ht]
  omega

theorem aw_low : 0 < lowR (fun _ => awS) 50 30 := by
  unfold lowR endI
  rw [if_pos rfl, searchN, if_pos (by omega), show (0 + 2001 : Int) / 2 = 1000 from rfl]
  rw [if_pos (by rw [numX_le _ _ _ _ _ (by omega)]; exact aw_ex)]
  have := searchN_bd (fun h => decide (numX (fun _ => awS) true (thrI 50 2) 30 (h - 1000) ≤ (30 : Nat))) 2001 (1000 + 1) 2001 (by omega)
  omega

theorem aw_high : highR (fun _ => awS) 50 30 = 1000 := highR_none (by omega) fun e h1 h2 => exR_false fun i _ => by
  have ht : thrI 50 2 = 171798691840 := by decide
  have a := aw_down e h1 h2 1 (by omega) (i + 1)
  have b := aw_down e h1 h2 2 (by omega) (i + 1)
  have c := aw_down e h1 h2 4 (by omega) (i + 1)
  unfold meanAt
  rw [ht]
  omega

theorem aw_low2 : lowR (fun _ => awS) 1000 30 = -1000 := lowR_none (by omega) fun e _ _ => exR_false fun i _ => by
  have ht : thrI 1000 2 = 2305843009213693953 := by decide
  have := meanAt_bd (fun _ => awS) e true (i + 1)
  rw [ht]
  omega

theorem none_low (f : Nat → Scr) (level : Int) : lowR f level 0 = -1000 := lowR_none (by omega) fun e _ _ => exR_false fun i hi => by omega
theorem none_high (f : Nat → Scr) (level : Int) : highR f level 0 = 1000 := highR_none (by omega) fun e _ _ => exR_false fun i hi => by omega

set_option maxRecDepth 100000 in
set_option maxHeartbeats 2000000 in
theorem awake67 (w : World) : Calls Try.prog 67 #[] w fun e w' => e = .returned (.bool true) ∧ Below w.heap.size w w' := by
  obtain ⟨i0, hi, hz0, hz1, hz2⟩ := info_parts info37
  go_enter Try.func67, Try.ntmps67
  go_wp2_with fail
  go_loopg [2, 1] 30 (fun m i v wr => ∃ k : Nat, k ≤ 30 ∧ m = 30 - k ∧ i = .int .i64 k ∧ OwnScr wr w.heap.size v (List.replicate k awS) ∧ Below w.heap.size w wr)
  case atStart => exact ⟨0, by omega, by omega, rfl, Own.nil _ _ _ _ _, Below.refl _ _⟩
  case round =>
    obtain ⟨k, hk, hmk, rfl, hown, hb⟩ := hrel
    have HMK := Lib.hid hmk
    clear hmk
    by_cases hkn : k < 30
    · have hdk : decide ((k : Int) < 30) = true := by simp; omega
      obtain ⟨A, cp, rfl, hcp⟩ := Own.shape hown
      have hsz := hb.size
      have hlen : (List.replicate k awS).length = k := by simp
      rw [hlen] at hcp
      have hown' : World.ownsRow wr w.heap.size 37 3 (.slice A k cp) k ((List.replicate k awS).flatMap Scr.cells) := by have h := hown; unfold OwnScr Own at h; rw [hlen] at h; exact h
      rw [hlen]
      clear hown
      go_wp2_with (at_builtin; refine wpList_append_lies _ (by rfl) (.tmp 7) (.tmp 9) 38 (by rfl) w.heap.size 37 i0 _ 3 24 Try.underlying38 hi hz0 hz1 hz2 rfl (by omega) _ _ _ (by rfl) (World.ownsRow.alloc hown' _) ⟨wr.heap.size, 0, none⟩ 1 1 [.int .i64 10, .int .i64 10, .int .i64 20] (by rfl) (by rfl) (World.news_of_block (heap_alloc_new wr (.cells #[.int .i64 10, .int .i64 10, .int .i64 20] 37))) (by simp [Value.oneCell']) (by omega) (by unfold maxLen; omega) (by omega) (by simp; omega) (wr.heap.size + 1) (by simp) ?_; intro g' cap' w6 hown6 hgrow hat hlt6)
      have hrow : ∀ q, (Value.slice A k cp).ownBlock = some q → w.heap.size ≤ q := fun q hq => (World.ownsRow.lt hown' q hq).1
      have hb6 : Below w.heap.size w w6 := (hb.alloc hb.size _).grown hgrow (by simp; omega) (fun q hq => hrow q hq)
      have ho : OwnScr w6 w.heap.size (.slice (some ⟨g', 0, none⟩) (k + 1) cap') (List.replicate (k + 1) awS) := by
        rw [List.replicate_succ']
        refine Own.snoc (c := Scr.cells) ?_
        rw [hlen]
        exact hown6
      clear hown6 hgrow hat hown'
      go_roundg (30 - (k + 1))
      case measure => have := HMK.out; omega
      case rel => exact ⟨k + 1, by omega, rfl, by go_num, ho, hb6⟩
    · have hdk : decide ((k : Int) < 30) = false := by simp; omega
      obtain rfl : k = 30 := by omega
      obtain ⟨A, cp, rfl, hcp⟩ := Own.shape hown
      have hR := Own.rows (c := Scr.cells) (fun _ => rfl) awS hown
      have hlen : (List.replicate 30 awS).length = 30 := by simp
      rw [hlen] at hR hcp ⊢
      have hfun : (fun i => ((List.replicate 30 awS).getD i awS).cells) = fun i : Nat => ((fun _ => awS) i : Scr).cells := by
        funext i
        rw [List.getD_eq_getElem?_getD, List.getElem?_replicate]
        split <;> rfl
      rw [hfun] at hR
      have hbd : ∀ k, k < 30 → -9223372036854775808 ≤ ((fun _ => awS) k : Scr).unit ∧ ((fun _ => awS) k : Scr).rng ≤ 9223372036854775807 := fun _ _ => by simp [awS]
      have hbd0 : ∀ k, k < 0 → -9223372036854775808 ≤ ((fun _ => awS) k : Scr).unit ∧ ((fun _ => awS) k : Scr).rng ≤ 9223372036854775807 := fun _ h => by omega
      have hnil : ∀ w : World, RowsAt w w.heap.size 3 none 0 (fun i : Nat => ((fun _ => awS) i : Scr).cells) := fun w h => by omega
      have hal := aw_low
      have hah := aw_high
      have hal2 := aw_low2
      obtain ⟨L, hL⟩ : ∃ L, lowR (fun _ => awS) 50 30 = L := ⟨_, rfl⟩
      rw [hL] at hal
      have HL := Lib.hid hL
      have HH := Lib.hid hah
      have HL2 := Lib.hid hal2
      clear hL hah hal2 hown hfun
      go_wp2_with fail
      refine (lower68 none 0 0 (fun _ => awS) 50 _ (by omega) (hnil _) hbd0).mono ?_
      rintro e w1 ⟨rfl, hb1⟩
      rw [none_low]
      replace hR := (hR.below hb1 (Nat.le_refl _)).more hb1.size
      replace hb := below_trans' hb hb.size hb1
      clear hb1
      go_wp2_with fail
      refine (upper70 none 0 0 (fun _ => awS) 50 _ (by omega) (hnil _) hbd0).mono ?_
      rintro e w2 ⟨rfl, hb1⟩
      rw [none_high]
      replace hR := (hR.below hb1 (Nat.le_refl _)).more hb1.size
      replace hb := below_trans' hb hb.size hb1
      clear hb1
      go_wp2_with fail
      refine (lower68 A 30 cp (fun _ => awS) 50 _ (by omega) hR hbd).mono ?_
      rintro e w3 ⟨rfl, hb1⟩
      rw [HL.out]
      replace hR := (hR.below hb1 (Nat.le_refl _)).more hb1.size
      replace hb := below_trans' hb hb.size hb1
      clear hb1
      go_wp2_with fail
      refine (upper70 A 30 cp (fun _ => awS) 50 _ (by omega) hR hbd).mono ?_
      rintro e w4 ⟨rfl, hb1⟩
      rw [HH.out]
      replace hR := (hR.below hb1 (Nat.le_refl _)).more hb1.size
      replace hb := below_trans' hb hb.size hb1
      clear hb1
      go_wp2_with fail
      refine (lower68 A 30 cp (fun _ => awS) 1000 _ (by omega) hR hbd).mono ?_
      rintro e w5 ⟨rfl, hb1⟩
      rw [HL2.out]
      replace hb := below_trans' hb hb.size hb1
      go_wp2_with fail
      go_ret
      exact ⟨rfl, hb⟩
end Go.Proofs.Ytgonighpjpfmnaa
