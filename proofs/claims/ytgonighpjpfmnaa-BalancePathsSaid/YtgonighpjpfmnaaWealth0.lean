/- What package wealth computes, in plain Lean, and its laws: growth, factor, path, threshold, first. Plain: no program. -/
import Derived.Test.YtgonighpjpfmnaaLists
import Derived.Test.YtgonighpjpfmnaaScore1
namespace Go.Proofs.Ytgonighpjpfmnaa

def growI (w num den : Int) : Int :=
  if w < 0 ∨ 2305843009213693952 < w ∨ den < 1 ∨ 4611686018427387904 < den ∨ num < 0 then 0 else min 2305843009213693952 (w * num / den)

theorem growI_nonneg (w num den : Int) : 0 ≤ growI w num den := by
  unfold growI
  split
  · omega
  · have : 0 ≤ w * num / den := Int.ediv_nonneg (Int.mul_nonneg (by omega) (by omega)) (by omega)
    omega

theorem growI_le (w num den : Int) : growI w num den ≤ 2305843009213693952 := by
  unfold growI
  split <;> omega

theorem growI_mul_le {w num den : Int} (hw : 0 ≤ w) (hn : 0 ≤ num) (hd : 1 ≤ den) : growI w num den * den ≤ w * num := by
  unfold growI
  split
  · have := Int.mul_nonneg hw hn; omega
  · have h1 := Int.ediv_mul_le (w * num) (show den ≠ 0 by omega)
    have h2 : min 2305843009213693952 (w * num / den) * den ≤ w * num / den * den := Int.mul_le_mul_of_nonneg_right (by omega) (by omega)
    omega

theorem growI_mono {w w' num num' den : Int} (hww : w ≤ w') (hnn : num ≤ num') (hw : 0 ≤ w) (hw' : w' ≤ 2305843009213693952) (hn : 0 ≤ num) (hd : 1 ≤ den) (hd' : den ≤ 4611686018427387904) : growI w num den ≤ growI w' num' den := by
  unfold growI
  rw [if_neg (by omega), if_neg (by omega)]
  have h1 : w * num ≤ w' * num' := Int.mul_le_mul hww hnn hn (by omega)
  have h2 := Int.ediv_le_ediv (show 0 < den by omega) h1
  omega

def facOk (n u r e b : Int) : Bool := vldS n u r && (decide (-1000 ≤ e) && (decide (e ≤ 1000) && (decide (0 ≤ b) && decide (b ≤ 4))))
def gainI (n u e b : Int) : Int := b * (n * 1000 - u * e)
def facN (n u r e b : Int) (up : Bool) : Int := if facOk n u r e b = true then (if up = true then 8 * r * 1000 + gainI n u e b else 8 * r * 1000 - gainI n u e b) else 1
def facD (n u r e b : Int) : Int := if facOk n u r e b = true then 8 * r * 1000 else 1

theorem facOk_iff {n u r e b : Int} : facOk n u r e b = true ↔ (1 ≤ u ∧ u ≤ r ∧ r ≤ 562949953421312 ∧ u - r ≤ n ∧ n ≤ r - u) ∧ -1000 ≤ e ∧ e ≤ 1000 ∧ 0 ≤ b ∧ b ≤ 4 := by
  simp only [facOk, vldS, Bool.and_eq_true, decide_eq_true_eq]
  omega

theorem mul_le4 {a b A B : Int} (h1 : -A ≤ a) (h2 : a ≤ A) (h3 : 0 ≤ b) (h4 : b ≤ B) (hA : 0 ≤ A) : -(B * A) ≤ b * a ∧ b * a ≤ B * A := by
  have e1 : b * a ≤ b * A := Int.mul_le_mul_of_nonneg_left h2 h3
  have e2 : b * -A ≤ b * a := Int.mul_le_mul_of_nonneg_left h1 h3
  have e3 : b * A ≤ B * A := Int.mul_le_mul_of_nonneg_right h4 hA
  rw [Int.mul_neg] at e2
  omega

theorem prod_bd {u e : Int} (hu : 1 ≤ u) (h1 : -1000 ≤ e) (h2 : e ≤ 1000) : -(1000 * u) ≤ u * e ∧ u * e ≤ 1000 * u := by
  have := mul_le4 (a := e) (b := u) (A := 1000) (B := u) h1 h2 (by omega) (Int.le_refl _) (by omega)
  omega

theorem gain_bd {n u r e b : Int} (h : facOk n u r e b = true) : -(4000 * r) ≤ gainI n u e b ∧ gainI n u e b ≤ 4000 * r := by
  obtain ⟨⟨h1, h2, h3, h4, h5⟩, h6, h7, h8, h9⟩ := facOk_iff.1 h
  have hp := prod_bd (u := u) (e := e) (by omega) h6 h7
  have := mul_le4 (a := n * 1000 - u * e) (b := b) (A := 1000 * r) (B := 4) (by omega) (by omega) h8 h9 (by omega)
  unfold gainI
  omega

theorem fac_bd (n u r e b : Int) (up : Bool) : 1 ≤ facD n u r e b ∧ facD n u r e b ≤ 4503599627370496000 ∧ 0 ≤ facN n u r e b up ∧ facD n u r e b ≤ 2 * facN n u r e b up ∧ 2 * facN n u r e b up ≤ 3 * facD n u r e b ∨ facD n u r e b = 1 ∧ facN n u r e b up = 1 := by
  unfold facN facD
  split
  · rename_i h
    obtain ⟨⟨h1, h2, h3, h4, h5⟩, h6, h7, h8, h9⟩ := facOk_iff.1 h
    have := gain_bd h
    left
    split <;> omega
  · exact .inr ⟨rfl, rfl⟩

theorem facN_mono {n u r b e e' : Int} (hs : vldS n u r = true) (he : e ≤ e') (h1 : -1000 ≤ e) (h2 : e' ≤ 1000) : facN n u r e' b true ≤ facN n u r e b true ∧ facN n u r e b false ≤ facN n u r e' b false ∧ facD n u r e b = facD n u r e' b := by
  by_cases hb : 0 ≤ b ∧ b ≤ 4
  · have k1 : facOk n u r e b = true := by simp [facOk, hs]; omega
    have k2 : facOk n u r e' b = true := by simp [facOk, hs]; omega
    have hu : 1 ≤ u := (facOk_iff.1 k1).1.1
    have hg : gainI n u e' b ≤ gainI n u e b := by
      unfold gainI
      have : u * e ≤ u * e' := Int.mul_le_mul_of_nonneg_left he (by omega)
      exact Int.mul_le_mul_of_nonneg_left (by omega) hb.1
    refine ⟨?_, ?_, ?_⟩
    · rw [facN, facN, if_pos k1, if_pos k2, if_pos rfl, if_pos rfl]; omega
    · rw [facN, facN, if_pos k1, if_pos k2, if_neg (by decide), if_neg (by decide)]; omega
    · rw [facD, facD, if_pos k1, if_pos k2]
  · have k1 : facOk n u r e b = false := by
      cases h : facOk n u r e b with
      | false => rfl
      | true => have := facOk_iff.1 h; omega
    have k2 : facOk n u r e' b = false := by
      cases h : facOk n u r e' b with
      | false => rfl
      | true => have := facOk_iff.1 h; omega
    simp [facN, facD, k1, k2]

/-- The wealth of one bet after k scores. -/
def wAt (f : Nat → Scr) (e : Int) (up : Bool) (b : Int) : Nat → Int
  | 0 => 4294967296
  | k + 1 => growI (wAt f e up b k) (facN (f k).num (f k).unit (f k).rng e b up) (facD (f k).num (f k).unit (f k).rng e b)

theorem wAt_bd (f : Nat → Scr) (e : Int) (up : Bool) (b : Int) : ∀ k, 0 ≤ wAt f e up b k ∧ wAt f e up b k ≤ 2305843009213693952
  | 0 => by simp [wAt]
  | _ + 1 => ⟨growI_nonneg _ _ _, growI_le _ _ _⟩

def meanAt (f : Nat → Scr) (e : Int) (up : Bool) (k : Nat) : Int := (wAt f e up 1 k + wAt f e up 2 k + wAt f e up 4 k) / 3
def pathR (f : Nat → Scr) (e : Int) (up : Bool) (n : Nat) : List Int := (List.range n).map fun k => meanAt f e up (k + 1)

theorem meanAt_bd (f : Nat → Scr) (e : Int) (up : Bool) (k : Nat) : 0 ≤ meanAt f e up k ∧ meanAt f e up k ≤ 2305843009213693952 := by
  have h1 := wAt_bd f e up 1 k
  have h2 := wAt_bd f e up 2 k
  have h4 := wAt_bd f e up 4 k
  unfold meanAt
  omega

theorem pathR_succ (f : Nat → Scr) (e : Int) (up : Bool) (n : Nat) : pathR f e up (n + 1) = pathR f e up n ++ [meanAt f e up (n + 1)] := by
  simp [pathR, List.range_succ]

theorem pathR_len (f : Nat → Scr) (e : Int) (up : Bool) (n : Nat) : (pathR f e up n).length = n := by simp [pathR]

theorem pathR_getD (f : Nat → Scr) (e : Int) (up : Bool) (n k : Nat) (hk : k < n) : (pathR f e up n).getD k 0 = meanAt f e up (k + 1) := by
  rw [pathR, List.getD_eq_getElem?_getD, List.getElem?_map, List.getElem?_range hk]; rfl

theorem wAt_mono {f : Nat → Scr} {e e' b : Int} {n : Nat} (hs : ∀ k, k < n → vldS (f k).num (f k).unit (f k).rng = true) (he : e ≤ e') (h1 : -1000 ≤ e) (h2 : e' ≤ 1000) : ∀ k, k ≤ n → wAt f e' true b k ≤ wAt f e true b k ∧ wAt f e false b k ≤ wAt f e' false b k
  | 0, _ => ⟨Int.le_refl _, Int.le_refl _⟩
  | k + 1, hk => by
    obtain ⟨i1, i2⟩ := wAt_mono hs he h1 h2 k (by omega)
    obtain ⟨m1, m2, m3⟩ := facN_mono (b := b) (hs k hk) he h1 h2
    have b1 := fac_bd (f k).num (f k).unit (f k).rng e b true
    have b2 := fac_bd (f k).num (f k).unit (f k).rng e b false
    have b3 := fac_bd (f k).num (f k).unit (f k).rng e' b true
    have b4 := fac_bd (f k).num (f k).unit (f k).rng e' b false
    have w1 := wAt_bd f e true b k
    have w2 := wAt_bd f e' true b k
    have w3 := wAt_bd f e false b k
    have w4 := wAt_bd f e' false b k
    simp only [wAt]
    refine ⟨?_, ?_⟩
    · rw [m3]; exact growI_mono i1 m1 (by omega) (by omega) (by omega) (by omega) (by omega)
    · rw [← m3]; exact growI_mono i2 m2 (by omega) (by omega) (by omega) (by omega) (by omega)

theorem meanAt_mono {f : Nat → Scr} {e e' : Int} {n : Nat} (hs : ∀ k, k < n → vldS (f k).num (f k).unit (f k).rng = true) (he : e ≤ e') (h1 : -1000 ≤ e) (h2 : e' ≤ 1000) (k : Nat) (hk : k ≤ n) : meanAt f e' true k ≤ meanAt f e true k ∧ meanAt f e false k ≤ meanAt f e' false k := by
  have a := wAt_mono (b := 1) hs he h1 h2 k hk
  have b := wAt_mono (b := 2) hs he h1 h2 k hk
  have c := wAt_mono (b := 4) hs he h1 h2 k hk
  unfold meanAt
  omega

def thrI (level sides : Int) : Int :=
  if level < 1 ∨ 999 < level ∨ sides < 1 ∨ 1000 < sides then 2305843009213693953 else (sides * 1000 * 4294967296 + level - 1) / level

/-- The number of the first of n elements that is at least t, 0: there is none. -/
def firstN (f : Nat → Int) (t : Int) : Nat → Nat
  | 0 => 0
  | n + 1 => if firstN f t n = 0 then (if t ≤ f n then n + 1 else 0) else firstN f t n

theorem firstN_none {f : Nat → Int} {t : Int} : ∀ {n : Nat}, (∀ i, i < n → f i < t) → firstN f t n = 0
  | 0, _ => rfl
  | n + 1, h => by
    have h1 := h n (by omega)
    rw [firstN, if_pos (firstN_none fun i hi => h i (by omega)), if_neg (by omega)]

theorem firstN_some {f : Nat → Int} {t : Int} {k : Nat} (h1 : t ≤ f k) (h2 : ∀ i, i < k → f i < t) : ∀ {n : Nat}, k < n → firstN f t n = k + 1
  | 0, hk => by omega
  | n + 1, hk => by
    by_cases h : k = n
    · subst h
      rw [firstN, if_pos (firstN_none h2), if_pos h1]
    · have e := firstN_some h1 h2 (n := n) (by omega)
      rw [firstN, if_neg (by omega), e]

theorem firstN_pos {f : Nat → Int} {t : Int} : ∀ {n : Nat}, 0 < firstN f t n ↔ ∃ i, i < n ∧ t ≤ f i
  | 0 => by simp [firstN]
  | n + 1 => by
    have ih := firstN_pos (f := f) (t := t) (n := n)
    rw [firstN]
    split
    · rename_i h0
      have hno : ¬ ∃ i, i < n ∧ t ≤ f i := fun h => by have := ih.2 h; omega
      split
      · rename_i h1; exact ⟨fun _ => ⟨n, by omega, h1⟩, fun _ => by omega⟩
      · rename_i h1
        refine ⟨fun h => by omega, fun ⟨i, hi, hf⟩ => ?_⟩
        by_cases hin : i = n
        · subst hin; omega
        · exact absurd ⟨i, by omega, hf⟩ hno
    · rename_i h0
      obtain ⟨i, hi, hf⟩ := ih.1 (by omega)
      exact ⟨fun _ => ⟨i, by omega, hf⟩, fun _ => by omega⟩

end Go.Proofs.Ytgonighpjpfmnaa
