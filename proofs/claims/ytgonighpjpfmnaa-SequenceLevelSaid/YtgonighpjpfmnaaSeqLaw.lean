/- The excluded effects are half-lines; the mirror. Plain: no program is walked. -/
import Derived.Test.YtgonighpjpfmnaaAwake41
import Derived.Test.YtgonighpjpfmnaaWealthMonotone
namespace Go.Proofs.Ytgonighpjpfmnaa
open Go.RowKit Go.Maps

def allV (f : Nat → Scr) (n : Nat) : Prop := ∀ k, k < n → vldS (f k).num (f k).unit (f k).rng = true

theorem exR_anti {f : Nat → Scr} {thr : Int} {n : Nat} (hs : allV f n) {e e' : Int} (he : e ≤ e') (h1 : -1000 ≤ e) (h2 : e' ≤ 1000) : (exR f true thr n e' = true → exR f true thr n e = true) ∧ (exR f false thr n e = true → exR f false thr n e' = true) := by
  refine ⟨fun h => ?_, fun h => ?_⟩
  · obtain ⟨i, hi, ht⟩ := exR_iff.1 h
    exact exR_iff.2 ⟨i, hi, Int.le_trans ht (meanAt_mono hs he h1 h2 (i + 1) (by omega)).1⟩
  · obtain ⟨i, hi, ht⟩ := exR_iff.1 h
    exact exR_iff.2 ⟨i, hi, Int.le_trans ht (meanAt_mono hs he h1 h2 (i + 1) (by omega)).2⟩

theorem lowR_bd (f : Nat → Scr) (level : Int) (n : Nat) : -1000 ≤ lowR f level n ∧ lowR f level n ≤ 1001 := by
  have h := searchN_bd (fun h => decide (numX f true (thrI level 2) n (h - 1000) ≤ n)) 2002 0 2001 (by omega)
  unfold lowR endI
  rw [if_pos rfl]
  omega
theorem highR_bd (f : Nat → Scr) (level : Int) (n : Nat) : -1001 ≤ highR f level n ∧ highR f level n ≤ 1000 := by
  have h := searchN_bd (fun h => decide (numX f false (thrI level 2) n (-(h - 1000)) ≤ n)) 2002 0 2001 (by omega)
  unfold highR endI
  rw [if_neg (by decide)]
  omega

theorem lowR_iff {f : Nat → Scr} {level : Int} {n : Nat} (hn : n ≤ 1048576) (hs : allV f n) {e : Int} (h1 : -1000 ≤ e) (h2 : e ≤ 1000) : exR f true (thrI level 2) n e = true ↔ e < lowR f level n := by
  have h := searchN_spec (p := fun h => decide (numX f true (thrI level 2) n (h - 1000) ≤ n)) 2002 0 2001 (by omega) (by omega) (fun a b ha hab hb hp => by
    rw [numX_le _ _ _ _ _ hn] at hp ⊢
    exact (exR_anti hs (by omega) (by omega) (by omega)).1 hp) (e + 1000) (by omega) (by omega)
  rw [numX_le _ _ _ _ _ hn, show e + 1000 - 1000 = e by omega] at h
  unfold lowR endI
  rw [if_pos rfl, h]
  omega

theorem highR_iff {f : Nat → Scr} {level : Int} {n : Nat} (hn : n ≤ 1048576) (hs : allV f n) {e : Int} (h1 : -1000 ≤ e) (h2 : e ≤ 1000) : exR f false (thrI level 2) n e = true ↔ highR f level n < e := by
  have h := searchN_spec (p := fun h => decide (numX f false (thrI level 2) n (-(h - 1000)) ≤ n)) 2002 0 2001 (by omega) (by omega) (fun a b ha hab hb hp => by
    rw [numX_le _ _ _ _ _ hn] at hp ⊢
    exact (exR_anti hs (by omega) (by omega) (by omega)).2 hp) (1000 - e) (by omega) (by omega)
  rw [numX_le _ _ _ _ _ hn, show -(1000 - e - 1000) = e by omega] at h
  unfold highR endI
  rw [if_neg (by decide), h]
  omega

/-- The opposite score. -/
def Scr.neg (s : Scr) : Scr := ⟨-s.num, s.unit, s.rng⟩

theorem fac_neg (n u r e b : Int) (up : Bool) : facN (-n) u r (-e) b up = facN n u r e b (!up) ∧ facD (-n) u r (-e) b = facD n u r e b := by
  have hok : facOk (-n) u r (-e) b = facOk n u r e b := by
    cases h : facOk n u r e b with
    | true =>
      have h' := facOk_iff.1 h
      exact facOk_iff.2 (by omega)
    | false =>
      cases h2 : facOk (-n) u r (-e) b with
      | false => rfl
      | true =>
        have h' := facOk_iff.1 h2
        have : facOk n u r e b = true := facOk_iff.2 (by omega)
        rw [h] at this
        cases this
  have hg : gainI (-n) u (-e) b = -gainI n u e b := by unfold gainI; grind
  unfold facN facD
  rw [hok, hg]
  refine ⟨?_, rfl⟩
  cases up <;> simp <;> split <;> omega

theorem wAt_neg (f : Nat → Scr) (e : Int) (up : Bool) (b : Int) : ∀ k, wAt (fun i => (f i).neg) (-e) up b k = wAt f e (!up) b k
  | 0 => rfl
  | k + 1 => by
    have h := fac_neg (f k).num (f k).unit (f k).rng e b up
    show growI (wAt (fun i => (f i).neg) (-e) up b k) (facN (-(f k).num) (f k).unit (f k).rng (-e) b up) (facD (-(f k).num) (f k).unit (f k).rng (-e) b) = growI (wAt f e (!up) b k) (facN (f k).num (f k).unit (f k).rng e b (!up)) (facD (f k).num (f k).unit (f k).rng e b)
    rw [wAt_neg f e up b k, h.1, h.2]

theorem numX_neg (f : Nat → Scr) (e : Int) (up : Bool) (thr : Int) (n : Nat) : numX (fun i => (f i).neg) up thr n (-e) = numX f (!up) thr n e := by
  have h : pathR (fun i => (f i).neg) (-e) up n = pathR f e (!up) n := by
    unfold pathR
    congr 1
    funext k
    unfold meanAt
    rw [wAt_neg, wAt_neg, wAt_neg]
  unfold numX
  rw [h]

theorem lowR_neg (f : Nat → Scr) (level : Int) (n : Nat) : lowR (fun i => (f i).neg) level n = -highR f level n := by
  unfold lowR highR endI
  rw [if_pos rfl, if_neg (by decide)]
  have h : (fun h : Int => decide (numX (fun i => (f i).neg) true (thrI level 2) n (h - 1000) ≤ n)) = fun h : Int => decide (numX f false (thrI level 2) n (-(h - 1000)) ≤ n) := by
    funext h
    have := numX_neg f (-(h - 1000)) true (thrI level 2) n
    rw [Int.neg_neg] at this
    rw [this]
    rfl
  rw [h]
  omega
theorem highR_neg (f : Nat → Scr) (level : Int) (n : Nat) : highR (fun i => (f i).neg) level n = -lowR f level n := by
  unfold lowR highR endI
  rw [if_pos rfl, if_neg (by decide)]
  have h : (fun h : Int => decide (numX (fun i => (f i).neg) false (thrI level 2) n (-(h - 1000)) ≤ n)) = fun h : Int => decide (numX f true (thrI level 2) n (h - 1000) ≤ n) := by
    funext h
    have := numX_neg f (h - 1000) false (thrI level 2) n
    rw [this]
    rfl
  rw [h]
end Go.Proofs.Ytgonighpjpfmnaa
