/- The walk of flagstonelaw41.SequenceLevel: the law in plain words, one level of misses, the whole. -/
import Derived.Test.YtgonighpjpfmnaaUnb0
import Derived.Test.YtgonighpjpfmnaaThresh
import Derived.Test.YtgonighpjpfmnaaSeqLaw
import Derived.Test.YtgonighpjpfmnaaHeldT
import Derived.Test.YtgonighpjpfmnaaLate4
import Derived.Test.YtgonighpjpfmnaaAwake41
import Derived.Test.YtgonighpjpfmnaaArgs
namespace Go.Proofs.Ytgonighpjpfmnaa
open Go.RowKit

theorem subj_fair {X1 X2 U R c t y z b W : Int} {up : Bool} (h1 : vldS X1 U R = true) (h2 : vldS X2 U R = true) (hU : U = c * t * 250) (hl : c * X1 + t * X2 = c * t * (c + t) * (z - y)) (hc : 1 ≤ c) (ht : 1 ≤ t) (hy : 0 ≤ y ∧ y ≤ 250) (hz : 0 ≤ z ∧ z ≤ 250) (hb : 0 ≤ b ∧ b ≤ 4) (hW : 0 ≤ W) :
    facD X1 U R ((z - y) * 4) b = facD X2 U R ((z - y) * 4) b ∧ c * growI W (facN X1 U R ((z - y) * 4) b up) (facD X1 U R ((z - y) * 4) b) + t * growI W (facN X2 U R ((z - y) * 4) b up) (facD X2 U R ((z - y) * 4) b) ≤ (c + t) * W := by
  have k1 : facOk X1 U R ((z - y) * 4) b = true := by simp [facOk, h1]; omega
  have k2 : facOk X2 U R ((z - y) * 4) b = true := by simp [facOk, h2]; omega
  have f1 := fac_bd X1 U R ((z - y) * 4) b up
  have f2 := fac_bd X2 U R ((z - y) * 4) b up
  have d1 : facD X1 U R ((z - y) * 4) b = 8 * R * 1000 := by rw [facD, if_pos k1]
  have d2 : facD X2 U R ((z - y) * 4) b = 8 * R * 1000 := by rw [facD, if_pos k2]
  have n1 : facN X1 U R ((z - y) * 4) b up = if up = true then 8 * R * 1000 + gainI X1 U ((z - y) * 4) b else 8 * R * 1000 - gainI X1 U ((z - y) * 4) b := by rw [facN, if_pos k1]
  have n2 : facN X2 U R ((z - y) * 4) b up = if up = true then 8 * R * 1000 + gainI X2 U ((z - y) * 4) b else 8 * R * 1000 - gainI X2 U ((z - y) * 4) b := by rw [facN, if_pos k2]
  have hsum : c * gainI X1 U ((z - y) * 4) b + t * gainI X2 U ((z - y) * 4) b = 0 := by
    unfold gainI
    have e : c * (b * (X1 * 1000 - U * ((z - y) * 4))) + t * (b * (X2 * 1000 - U * ((z - y) * 4))) = b * (1000 * (c * X1 + t * X2) - (c + t) * U * ((z - y) * 4)) := by grind
    rw [e, hl, hU]
    grind
  have hNs : c * facN X1 U R ((z - y) * 4) b up + t * facN X2 U R ((z - y) * 4) b up = (c + t) * (8 * R * 1000) := by
    rw [n1, n2]
    split <;> grind
  rw [d1] at f1
  rw [d2] at f2
  refine ⟨by rw [d1, d2], ?_⟩
  rw [d1, d2]
  have hD : 1 ≤ 8 * R * 1000 := by omega
  generalize hA : facN X1 U R ((z - y) * 4) b up = N1 at *
  generalize hB : facN X2 U R ((z - y) * 4) b up = N2 at *
  generalize 8 * R * 1000 = D at *
  have g1 := growI_mul_le (w := W) (num := N1) (den := D) hW (by omega) hD
  have g2 := growI_mul_le (w := W) (num := N2) (den := D) hW (by omega) hD
  refine Int.le_of_mul_le_mul_right (a := D) ?_ (by omega)
  have e1 : c * (growI W N1 D * D) ≤ c * (W * N1) := Int.mul_le_mul_of_nonneg_left g1 (by omega)
  have e2 : t * (growI W N2 D * D) ≤ t * (W * N2) := Int.mul_le_mul_of_nonneg_left g2 (by omega)
  have e3 : (c * growI W N1 D + t * growI W N2 D) * D = c * (growI W N1 D * D) + t * (growI W N2 D * D) := by grind
  have e4 : (c + t) * W * D = c * (W * N1) + t * (W * N2) := by
    have : W * (c * N1 + t * N2) = W * ((c + t) * D) := by rw [hNs]
    grind
  omega

/-- A sample of version 1. -/
def uV (arm y b : Int) : Smp := ⟨⟨#[]⟩, ⟨#[]⟩, 0, 0, arm, 1, y, 0, b, false⟩
def Lv (s : Smp) : Prop := (s.arm = 1 ∨ s.arm = 2) ∧ s.version = 1 ∧ 0 ≤ s.value ∧ s.value ≤ 20 ∧ 0 ≤ s.before ∧ s.before ≤ 2
theorem Lv.made {s : Smp} (h : Lv s) : Smp.made 20 s := ⟨h.1, .inl h.2.1, h.2.2.1, h.2.2.2.1, h.2.2.2.2.1, by have := h.2.2.2.2.2; omega⟩

/-- The one row of weights. -/
def gW (c t : Int) : Nat → Wt := fun _ => ⟨1, c, t⟩
/-- The scores of samples. -/
def scL (l : List Smp) (c t : Int) (adj : Bool) : List Scr := allR (fun i => l.getD i default) l.length (gW c t) 1 20 adj l.length

def newP (l : List Smp) (x : Smp) (adj : Bool) (arm : Int) : Int := if adj then predI (fun i => (l ++ [x]).getD i default) l.length arm 20 else 0
/-- The score of one more sample. -/
def newS (l : List Smp) (x : Smp) (c t : Int) (adj : Bool) : Scr :=
  ⟨if x.arm = 1 then c * t * (newP l x adj 2 - newP l x adj 1) - (c + t) * t * (x.value - newP l x adj 1) else c * t * (newP l x adj 2 - newP l x adj 1) + (c + t) * c * (x.value - newP l x adj 2), c * t * 20, 20 * (2 * (c * t) + (c + t) * max c t)⟩

theorem newS_of {l : List Smp} {x : Smp} {c t : Int} {adj : Bool} (hl : ∀ s ∈ l, Lv s) (hx : Lv x) (hc : 1 ≤ c ∧ c ≤ 3) (ht : 1 ≤ t ∧ t ≤ 3) :
    ofR (fun i => (l ++ [x]).getD i default) (l.length + 1) l.length c t 20 adj = some ((newS l x c t adj).num, (newS l x c t adj).unit, (newS l x c t adj).rng) :=
  snoc_of (fun s hs => (hl s hs).made) ⟨hx.2.2.1, hx.2.2.2.1⟩ hx.1 (by omega) (by omega) (by omega)

theorem newS_valid {l : List Smp} {x : Smp} {c t : Int} {adj : Bool} (hl : ∀ s ∈ l, Lv s) (hx : Lv x) (hc : 1 ≤ c ∧ c ≤ 3) (ht : 1 ≤ t ∧ t ≤ 3) : vldS (newS l x c t adj).num (newS l x c t adj).unit (newS l x c t adj).rng = true :=
  ofR_valid (newS_of hl hx hc ht)

theorem scL_snoc {l : List Smp} {x : Smp} {c t : Int} {adj : Bool} (hl : ∀ s ∈ l, Lv s) (hx : Lv x) (hc : 1 ≤ c ∧ c ≤ 3) (ht : 1 ≤ t ∧ t ≤ 3) : scL (l ++ [x]) c t adj = scL l c t adj ++ [newS l x c t adj] := by
  have e1 : (l ++ [x]).length = l.length + 1 := by simp
  unfold scL
  rw [e1]
  simp only [allR]
  rw [allR_congr (f' := fun i => l.getD i default) (n' := l.length) l.length (by omega) (by omega) fun i hi => snoc_get.1 i hi]
  congr 1
  unfold scoreAt
  have hv : ((l ++ [x]).getD l.length default).version = 1 := by rw [snoc_get.2]; exact hx.2.1
  have hf : findW (gW c t) 1 1 = some ⟨1, c, t⟩ := by simp [findW, gW]
  simp only [hv, hf]
  rw [newS_of hl hx hc ht]
  rfl

theorem scL_nil (c t : Int) (adj : Bool) : scL [] c t adj = [] := rfl

structure Kd where
  num : Int
  before : Int
  one : Int
  two : Int
def KOk (ks : Nat → Kd) (m : Nat) : Prop := ∀ i, i < m → (1 ≤ (ks i).num ∧ (ks i).num ≤ 3) ∧ (0 ≤ (ks i).before ∧ (ks i).before ≤ 2) ∧ (0 ≤ (ks i).one ∧ (ks i).one ≤ 20) ∧ 0 ≤ (ks i).two ∧ (ks i).two ≤ 20

/-- The weighted sum over the kinds and arms. -/
def kS (F : Smp → Int) (c t : Int) (ks : Nat → Kd) : Nat → Int
  | 0 => 0
  | i + 1 => kS F c t ks i + c * (ks i).num * F (uV 1 (ks i).one (ks i).before) + t * (ks i).num * F (uV 2 (ks i).two (ks i).before)
def kTot (ks : Nat → Kd) : Nat → Int
  | 0 => 0
  | i + 1 => kTot ks i + (ks i).num
def kDif (ks : Nat → Kd) : Nat → Int
  | 0 => 0
  | i + 1 => kDif ks i + (ks i).num * ((ks i).two - (ks i).one)

theorem kS_le {F G : Smp → Int} {c t : Int} {ks : Nat → Kd} (hc : 0 ≤ c) (ht : 0 ≤ t) : ∀ {m : Nat}, KOk ks m → (∀ x, Lv x → F x ≤ G x) → kS F c t ks m ≤ kS G c t ks m
  | 0, _, _ => Int.le_refl _
  | m + 1, hk, h => by
    have ih := kS_le (m := m) hc ht (fun i hi => hk i (by omega)) h
    obtain ⟨k1, k2, k3, k4⟩ := hk m (by omega)
    have h1 := Int.mul_le_mul_of_nonneg_left (h (uV 1 (ks m).one (ks m).before) ⟨.inl rfl, rfl, k3.1, k3.2, k2.1, k2.2⟩) (Int.mul_nonneg hc (show 0 ≤ (ks m).num by omega))
    have h2 := Int.mul_le_mul_of_nonneg_left (h (uV 2 (ks m).two (ks m).before) ⟨.inr rfl, rfl, k4.1, k4.2, k2.1, k2.2⟩) (Int.mul_nonneg ht (show 0 ≤ (ks m).num by omega))
    simp only [kS]
    omega

theorem kS_mul {F : Smp → Int} {c t a : Int} {ks : Nat → Kd} : ∀ m, kS (fun x => F x * a) c t ks m = kS F c t ks m * a
  | 0 => by simp [kS]
  | m + 1 => by simp only [kS]; rw [kS_mul m]; grind

theorem kS_add {F G : Smp → Int} {c t : Int} {ks : Nat → Kd} : ∀ m, kS (fun x => F x + G x) c t ks m = kS F c t ks m + kS G c t ks m
  | 0 => by simp [kS]
  | m + 1 => by simp only [kS]; rw [kS_add m]; grind

theorem kS_one {c t : Int} {ks : Nat → Kd} : ∀ m, kS (fun _ => 1) c t ks m = kTot ks m * (c + t)
  | 0 => by simp [kS, kTot]
  | m + 1 => by simp only [kS, kTot]; rw [kS_one m]; grind

theorem kTot_bd {ks : Nat → Kd} : ∀ {m : Nat}, KOk ks m → (m : Int) ≤ kTot ks m ∧ kTot ks m ≤ 3 * m
  | 0, _ => by simp [kTot]
  | m + 1, hk => by
    have ih := kTot_bd (m := m) fun i hi => hk i (by omega)
    obtain ⟨k1, _⟩ := hk m (by omega)
    simp only [kTot]
    omega

def S0 : Scr := ⟨0, 0, 0⟩
/-- The wealth of one bet behind some samples. -/
def wL (l : List Smp) (c t : Int) (adj : Bool) (e : Int) (up : Bool) (b : Int) : Int := wAt (fun i => (scL l c t adj).getD i S0) e up b l.length

theorem wAt_congr {f f' : Nat → Scr} {e : Int} {up : Bool} {b : Int} : ∀ k, (∀ i, i < k → f i = f' i) → wAt f e up b k = wAt f' e up b k
  | 0, _ => rfl
  | k + 1, h => by
    simp only [wAt]
    rw [wAt_congr k fun i hi => h i (by omega), h k (by omega)]

theorem snoc_cases {l : List Smp} {n : Nat} (h : l.length = n + 1) : ∃ l' x, l = l' ++ [x] ∧ l'.length = n := by
  have hne : l ≠ [] := fun e => by subst e; cases h
  refine ⟨l.dropLast, l.getLast hne, (List.dropLast_concat_getLast hne).symm, ?_⟩
  rw [List.length_dropLast]; omega

theorem scL_len' {c t : Int} {adj : Bool} (hc : 1 ≤ c ∧ c ≤ 3) (ht : 1 ≤ t ∧ t ≤ 3) : ∀ (n : Nat) (l : List Smp), l.length = n → (∀ s ∈ l, Lv s) → (scL l c t adj).length = n
  | 0, l, h, _ => by
    have : l = [] := List.eq_nil_of_length_eq_zero h
    subst this; rfl
  | n + 1, l, h, hl => by
    obtain ⟨l', x, rfl, hn⟩ := snoc_cases h
    rw [scL_snoc (fun s hs => hl s (by simp [hs])) (hl x (by simp)) hc ht, List.length_append, scL_len' hc ht n l' hn fun s hs => hl s (by simp [hs])]
    rfl
theorem scL_len {c t : Int} {adj : Bool} (hc : 1 ≤ c ∧ c ≤ 3) (ht : 1 ≤ t ∧ t ≤ 3) (l : List Smp) (hl : ∀ s ∈ l, Lv s) : (scL l c t adj).length = l.length := scL_len' hc ht _ l rfl hl

theorem scL_get {l : List Smp} {x : Smp} {c t : Int} {adj : Bool} (hl : ∀ s ∈ l, Lv s) (hx : Lv x) (hc : 1 ≤ c ∧ c ≤ 3) (ht : 1 ≤ t ∧ t ≤ 3) :
    (∀ i, i < l.length → (scL (l ++ [x]) c t adj).getD i S0 = (scL l c t adj).getD i S0) ∧ (scL (l ++ [x]) c t adj).getD l.length S0 = newS l x c t adj := by
  have hn := scL_len (adj := adj) hc ht l hl
  rw [scL_snoc hl hx hc ht]
  refine ⟨fun i hi => getD_append_l (by omega), ?_⟩
  rw [List.getD_eq_getElem?_getD, List.getElem?_append_right (by omega), hn]
  simp

theorem wL_snoc {l : List Smp} {x : Smp} {c t : Int} {adj : Bool} (hl : ∀ s ∈ l, Lv s) (hx : Lv x) (hc : 1 ≤ c ∧ c ≤ 3) (ht : 1 ≤ t ∧ t ≤ 3) (e : Int) (up : Bool) (b : Int) :
    wL (l ++ [x]) c t adj e up b = growI (wL l c t adj e up b) (facN (newS l x c t adj).num (newS l x c t adj).unit (newS l x c t adj).rng e b up) (facD (newS l x c t adj).num (newS l x c t adj).unit (newS l x c t adj).rng e b) := by
  have h := scL_get (adj := adj) hl hx hc ht
  unfold wL
  rw [show (l ++ [x]).length = l.length + 1 by simp]
  simp only [wAt]
  rw [wAt_congr l.length h.1, h.2]

theorem wL_bd (l : List Smp) (c t : Int) (adj : Bool) (e : Int) (up : Bool) (b : Int) : 0 ≤ wL l c t adj e up b ∧ wL l c t adj e up b ≤ 2305843009213693952 := wAt_bd _ _ _ _ _

/-- The two scores of a subject. -/
theorem newS_two {l : List Smp} {c t y z b : Int} {adj : Bool} : c * (newS l (uV 1 y b) c t adj).num + t * (newS l (uV 2 z b) c t adj).num = c * t * (c + t) * (z - y) := by
  have hp : ∀ arm, newP l (uV 2 z b) adj arm = newP l (uV 1 y b) adj arm := fun arm => by
    unfold newP
    rw [predI_congr (f' := fun i => (l ++ [uV 1 y b]).getD i default) (by rw [snoc_get.2, snoc_get.2]; rfl) fun i hi => by rw [snoc_get.1 i hi, snoc_get.1 i hi]]
  have h1 : (uV 1 y b).arm = 1 := rfl
  have h2 : ¬ (uV 2 z b).arm = 1 := by show ¬ (2 : Int) = 1; omega
  unfold newS
  dsimp only
  rw [if_pos h1, if_neg h2, hp 1, hp 2]
  show c * (c * t * (_ - _) - (c + t) * t * (y - _)) + t * (c * t * (_ - _) + (c + t) * c * (z - _)) = _
  grind

/-- What the factors add up to. -/
theorem kS_fac {l : List Smp} {c t : Int} {adj : Bool} {ks : Nat → Kd} {e b : Int} {up : Bool} (hl : ∀ s ∈ l, Lv s) (hc : 1 ≤ c ∧ c ≤ 3) (ht : 1 ≤ t ∧ t ≤ 3) (he : -1000 ≤ e ∧ e ≤ 1000) (hb : 0 ≤ b ∧ b ≤ 4) : ∀ {m : Nat}, KOk ks m →
    kS (fun x => facN (newS l x c t adj).num (newS l x c t adj).unit (newS l x c t adj).rng e b up) c t ks m =
      (if up = true then kTot ks m * (c + t) * (8 * (20 * (2 * (c * t) + (c + t) * max c t)) * 1000) + b * (c * t * (c + t)) * (1000 * kDif ks m - 20 * e * kTot ks m)
        else kTot ks m * (c + t) * (8 * (20 * (2 * (c * t) + (c + t) * max c t)) * 1000) - b * (c * t * (c + t)) * (1000 * kDif ks m - 20 * e * kTot ks m))
  | 0, _ => by simp [kS, kTot, kDif]
  | m + 1, hk => by
    have ih := kS_fac (up := up) (adj := adj) hl hc ht he hb (m := m) fun i hi => hk i (by omega)
    obtain ⟨k1, k2, k3, k4⟩ := hk m (by omega)
    have v1 : Lv (uV 1 (ks m).one (ks m).before) := ⟨.inl rfl, rfl, k3.1, k3.2, k2.1, k2.2⟩
    have v2 : Lv (uV 2 (ks m).two (ks m).before) := ⟨.inr rfl, rfl, k4.1, k4.2, k2.1, k2.2⟩
    have hs1 := newS_valid (adj := adj) hl v1 hc ht
    have hs2 := newS_valid (adj := adj) hl v2 hc ht
    have hok : ∀ x, vldS (newS l x c t adj).num (newS l x c t adj).unit (newS l x c t adj).rng = true → facOk (newS l x c t adj).num (newS l x c t adj).unit (newS l x c t adj).rng e b = true := fun x h => by simp [facOk, h]; omega
    have htwo := newS_two (l := l) (c := c) (t := t) (y := (ks m).one) (z := (ks m).two) (b := (ks m).before) (adj := adj)
    simp only [kS, kTot, kDif]
    rw [ih]
    simp only [facN]
    rw [if_pos (hok _ hs1), if_pos (hok _ hs2)]
    have u1 : (newS l (uV 1 (ks m).one (ks m).before) c t adj).unit = c * t * 20 := rfl
    have u2 : (newS l (uV 2 (ks m).two (ks m).before) c t adj).unit = c * t * 20 := rfl
    have r1 : (newS l (uV 1 (ks m).one (ks m).before) c t adj).rng = 20 * (2 * (c * t) + (c + t) * max c t) := rfl
    have r2 : (newS l (uV 2 (ks m).two (ks m).before) c t adj).rng = 20 * (2 * (c * t) + (c + t) * max c t) := rfl
    rw [u1, u2, r1, r2]
    unfold gainI
    generalize (newS l (uV 1 (ks m).one (ks m).before) c t adj).num = X1 at *
    generalize (newS l (uV 2 (ks m).two (ks m).before) c t adj).num = X2 at *
    generalize 8 * (20 * (2 * (c * t) + (c + t) * max c t)) * 1000 = D
    generalize (ks m).num = n
    generalize (ks m).two - (ks m).one = d at *
    have e1 : c * n * (b * (X1 * 1000 - c * t * 20 * e)) + t * n * (b * (X2 * 1000 - c * t * 20 * e)) = b * n * (1000 * (c * X1 + t * X2) - (c + t) * (c * t * 20 * e)) := by grind
    rw [htwo] at e1
    split <;> grind

/-- All wealths behind some samples. -/
def pot (l : List Smp) (c t : Int) (adj : Bool) (e : Int) : Int :=
  wL l c t adj e true 1 + wL l c t adj e true 2 + wL l c t adj e true 4 + (wL l c t adj e false 1 + wL l c t adj e false 2 + wL l c t adj e false 4)

theorem wL_fair {l : List Smp} {c t : Int} {adj : Bool} {ks : Nat → Kd} {e b : Int} {m : Nat} (up : Bool) (hl : ∀ s ∈ l, Lv s) (hc : 1 ≤ c ∧ c ≤ 3) (ht : 1 ≤ t ∧ t ≤ 3) (he : -1000 ≤ e ∧ e ≤ 1000) (hb : 0 ≤ b ∧ b ≤ 4) (hk : KOk ks m) (hm : e * kTot ks m = 50 * kDif ks m) :
    kS (fun x => wL (l ++ [x]) c t adj e up b) c t ks m ≤ kTot ks m * (c + t) * wL l c t adj e up b := by
  have hf := kS_fac (up := up) (adj := adj) hl hc ht he hb hk
  have hz : 1000 * kDif ks m - 20 * e * kTot ks m = 0 := by
    have : 20 * e * kTot ks m = 20 * (e * kTot ks m) := by grind
    omega
  rw [hz, Int.mul_zero, Int.add_zero, Int.sub_zero, ite_self] at hf
  have hW := wL_bd l c t adj e up b
  have hD : 1 ≤ 8 * (20 * (2 * (c * t) + (c + t) * max c t)) * 1000 := by
    have h1 : 0 ≤ c * t := Int.mul_nonneg (by omega) (by omega)
    have h2 : 1 * 1 ≤ (c + t) * max c t := Int.mul_le_mul (by omega) (by omega) (by omega) (by omega)
    omega
  generalize hDe : 8 * (20 * (2 * (c * t) + (c + t) * max c t)) * 1000 = D at *
  have h1 : kS (fun x => wL (l ++ [x]) c t adj e up b * D) c t ks m ≤ kS (fun x => facN (newS l x c t adj).num (newS l x c t adj).unit (newS l x c t adj).rng e b up * wL l c t adj e up b) c t ks m := by
    refine kS_le (by omega) (by omega) hk fun x hx => ?_
    rw [wL_snoc hl hx hc ht]
    have hs := newS_valid (adj := adj) hl hx hc ht
    have hok : facOk (newS l x c t adj).num (newS l x c t adj).unit (newS l x c t adj).rng e b = true := by simp [facOk, hs]; omega
    have hfd : facD (newS l x c t adj).num (newS l x c t adj).unit (newS l x c t adj).rng e b = D := by rw [facD, if_pos hok, ← hDe]; rfl
    have hfb := fac_bd (newS l x c t adj).num (newS l x c t adj).unit (newS l x c t adj).rng e b up
    rw [hfd] at hfb ⊢
    rw [Int.mul_comm (facN _ _ _ _ _ _)]
    exact growI_mul_le hW.1 (by omega) hD
  rw [kS_mul, kS_mul, hf] at h1
  generalize kS (fun x => wL (l ++ [x]) c t adj e up b) c t ks m = K at *
  refine Int.le_of_mul_le_mul_right (a := D) ?_ (by omega)
  have e1 : kTot ks m * (c + t) * D * wL l c t adj e up b = kTot ks m * (c + t) * wL l c t adj e up b * D := by grind
  omega

theorem pot_fair {l : List Smp} {c t : Int} {adj : Bool} {ks : Nat → Kd} {e : Int} {m : Nat} (hl : ∀ s ∈ l, Lv s) (hc : 1 ≤ c ∧ c ≤ 3) (ht : 1 ≤ t ∧ t ≤ 3) (he : -1000 ≤ e ∧ e ≤ 1000) (hk : KOk ks m) (hm : e * kTot ks m = 50 * kDif ks m) :
    kS (fun x => pot (l ++ [x]) c t adj e) c t ks m ≤ kTot ks m * (c + t) * pot l c t adj e := by
  have a1 := wL_fair (adj := adj) (b := 1) true hl hc ht he (by omega) hk hm
  have a2 := wL_fair (adj := adj) (b := 2) true hl hc ht he (by omega) hk hm
  have a4 := wL_fair (adj := adj) (b := 4) true hl hc ht he (by omega) hk hm
  have b1 := wL_fair (adj := adj) (b := 1) false hl hc ht he (by omega) hk hm
  have b2 := wL_fair (adj := adj) (b := 2) false hl hc ht he (by omega) hk hm
  have b4 := wL_fair (adj := adj) (b := 4) false hl hc ht he (by omega) hk hm
  unfold pot
  obtain ⟨W, hW⟩ : ∃ W, kTot ks m * (c + t) = W := ⟨_, rfl⟩
  rw [hW] at a1 a2 a4 b1 b2 b4 ⊢
  simp only [kS_add, Int.mul_add]
  omega

theorem pot_nonneg (l : List Smp) (c t : Int) (adj : Bool) (e : Int) : 0 ≤ pot l c t adj e := by
  have a1 := wL_bd l c t adj e true 1
  have a2 := wL_bd l c t adj e true 2
  have a4 := wL_bd l c t adj e true 4
  have b1 := wL_bd l c t adj e false 1
  have b2 := wL_bd l c t adj e false 2
  have b4 := wL_bd l c t adj e false 4
  unfold pot
  omega

def scF (l : List Smp) (c t : Int) (adj : Bool) : Nat → Scr := fun i => (scL l c t adj).getD i S0
/-- Whether the effect is excluded by some samples. -/
def exL (l : List Smp) (c t : Int) (adj : Bool) (e level : Int) : Bool := decide (e < lowR (scF l c t adj) level l.length) || decide (highR (scF l c t adj) level l.length < e)

theorem scF_valid' {c t : Int} {adj : Bool} (hc : 1 ≤ c ∧ c ≤ 3) (ht : 1 ≤ t ∧ t ≤ 3) : ∀ (n : Nat) (l : List Smp), l.length = n → (∀ s ∈ l, Lv s) → allV (scF l c t adj) n
  | 0, _, _, _ => fun k hk => by omega
  | n + 1, l, h, hl => fun k hk => by
    obtain ⟨l', x, rfl, hn⟩ := snoc_cases h
    have hl' : ∀ s ∈ l', Lv s := fun s hs => hl s (by simp [hs])
    have hx : Lv x := hl x (by simp)
    have hg := scL_get (adj := adj) hl' hx hc ht
    by_cases e : k = n
    · subst e
      have h2 : scF (l' ++ [x]) c t adj k = newS l' x c t adj := by rw [← hg.2, hn]; rfl
      rw [h2]
      exact newS_valid hl' hx hc ht
    · have h2 : scF (l' ++ [x]) c t adj k = scF l' c t adj k := hg.1 k (by omega)
      rw [h2]
      exact scF_valid' hc ht n l' hn hl' k (by omega)
theorem scF_valid {c t : Int} {adj : Bool} (hc : 1 ≤ c ∧ c ≤ 3) (ht : 1 ≤ t ∧ t ≤ 3) (l : List Smp) (hl : ∀ s ∈ l, Lv s) : allV (scF l c t adj) l.length := scF_valid' hc ht _ l rfl hl

def powI (T : Int) : Nat → Int
  | 0 => 1
  | d + 1 => powI T d * T

/-- The weight of all continuations in which the effect is ever excluded. -/
def missN (c t : Int) (ks : Nat → Kd) (m : Nat) (e level : Int) (adj : Bool) : Nat → List Smp → Int
  | 0, l => if exL l c t adj e level = true then 1 else 0
  | d + 1, l => if exL l c t adj e level = true then powI (kTot ks m * (c + t)) (d + 1) else kS (fun x => missN c t ks m e level adj d (l ++ [x])) c t ks m

/-- Not excluded before the last sample. -/
def Fresh (l : List Smp) (c t : Int) (adj : Bool) (e level : Int) : Prop := ∀ (up : Bool) (i : Nat), i + 1 < l.length → meanAt (scF l c t adj) e up (i + 1) < thrI level 2

theorem exL_hit {l : List Smp} {c t : Int} {adj : Bool} {e level : Int} (hc : 1 ≤ c ∧ c ≤ 3) (ht : 1 ≤ t ∧ t ≤ 3) (he : -1000 ≤ e ∧ e ≤ 1000) (hl : ∀ s ∈ l, Lv s) (hn : l.length ≤ 100) :
    exL l c t adj e level = true ↔ ∃ (up : Bool) (i : Nat), i < l.length ∧ thrI level 2 ≤ meanAt (scF l c t adj) e up (i + 1) := by
  have h1 := lowR_iff (f := scF l c t adj) (level := level) (n := l.length) (by omega) (scF_valid hc ht l hl) (e := e) he.1 he.2
  have h2 := highR_iff (f := scF l c t adj) (level := level) (n := l.length) (by omega) (scF_valid hc ht l hl) (e := e) he.1 he.2
  unfold exL
  rw [Bool.or_eq_true, decide_eq_true_eq, decide_eq_true_eq, ← h1, ← h2]
  constructor
  · rintro (h | h)
    · obtain ⟨i, hi, hm⟩ := exR_iff.1 h
      exact ⟨true, i, hi, hm⟩
    · obtain ⟨i, hi, hm⟩ := exR_iff.1 h
      exact ⟨false, i, hi, hm⟩
  · rintro ⟨up, i, hi, hm⟩
    cases up
    · exact .inr (exR_iff.2 ⟨i, hi, hm⟩)
    · exact .inl (exR_iff.2 ⟨i, hi, hm⟩)

theorem exL_pot {l : List Smp} {c t : Int} {adj : Bool} {e level : Int} (hc : 1 ≤ c ∧ c ≤ 3) (ht : 1 ≤ t ∧ t ≤ 3) (he : -1000 ≤ e ∧ e ≤ 1000) (hl : ∀ s ∈ l, Lv s) (hn : l.length ≤ 100) (hF : Fresh l c t adj e level) (h : exL l c t adj e level = true) : 3 * thrI level 2 ≤ pot l c t adj e := by
  obtain ⟨up, i, hi, hm⟩ := (exL_hit hc ht he hl hn).1 h
  have hi2 : i + 1 = l.length := by
    refine Decidable.byContradiction fun hne => ?_
    have := hF up i (by omega)
    omega
  rw [hi2] at hm
  have a1 := wL_bd l c t adj e true 1
  have a2 := wL_bd l c t adj e true 2
  have a4 := wL_bd l c t adj e true 4
  have b1 := wL_bd l c t adj e false 1
  have b2 := wL_bd l c t adj e false 2
  have b4 := wL_bd l c t adj e false 4
  have e1 : meanAt (scF l c t adj) e up l.length = (wL l c t adj e up 1 + wL l c t adj e up 2 + wL l c t adj e up 4) / 3 := rfl
  rw [e1] at hm
  unfold pot
  cases up <;> omega

theorem Fresh.snoc {l : List Smp} {x : Smp} {c t : Int} {adj : Bool} {e level : Int} (hc : 1 ≤ c ∧ c ≤ 3) (ht : 1 ≤ t ∧ t ≤ 3) (he : -1000 ≤ e ∧ e ≤ 1000) (hl : ∀ s ∈ l, Lv s) (hx : Lv x) (hn : l.length ≤ 100) (h : ¬ exL l c t adj e level = true) : Fresh (l ++ [x]) c t adj e level := fun up i hi => by
  rw [List.length_append, List.length_singleton] at hi
  have h1 := scL_get (adj := adj) hl hx hc ht
  have e1 : meanAt (scF (l ++ [x]) c t adj) e up (i + 1) = meanAt (scF l c t adj) e up (i + 1) := by
    unfold meanAt
    rw [wAt_congr (f := scF (l ++ [x]) c t adj) (f' := scF l c t adj) (i + 1) fun j hj => h1.1 j (by omega), wAt_congr (f := scF (l ++ [x]) c t adj) (f' := scF l c t adj) (i + 1) fun j hj => h1.1 j (by omega), wAt_congr (f := scF (l ++ [x]) c t adj) (f' := scF l c t adj) (i + 1) fun j hj => h1.1 j (by omega)]
  rw [e1]
  refine Int.not_le.1 fun hc' => h ((exL_hit hc ht he hl hn).2 ⟨up, i, by omega, hc'⟩)

theorem powI_pos {T : Int} (hT : 0 ≤ T) : ∀ d, 0 ≤ powI T d
  | 0 => by simp [powI]
  | d + 1 => Int.mul_nonneg (powI_pos hT d) hT

theorem kS_const {c t a : Int} {ks : Nat → Kd} (m : Nat) : kS (fun _ => a) c t ks m = a * (kTot ks m * (c + t)) := by
  have h := kS_mul (F := fun _ => 1) (c := c) (t := t) (a := a) (ks := ks) m
  rw [kS_one] at h
  simp only [Int.one_mul] at h
  rw [h, Int.mul_comm]

theorem kS_nonneg {F : Smp → Int} {c t : Int} {ks : Nat → Kd} (hc : 0 ≤ c) (ht : 0 ≤ t) {m : Nat} (hk : KOk ks m) (h : ∀ x, Lv x → 0 ≤ F x) : 0 ≤ kS F c t ks m := by
  have h1 := kS_le (F := fun _ => 0) hc ht hk h
  rwa [kS_const, Int.zero_mul] at h1

theorem Lv.snoc {l : List Smp} {x : Smp} (hl : ∀ s ∈ l, Lv s) (hx : Lv x) : ∀ s ∈ l ++ [x], Lv s := fun s hs => by
  rcases List.mem_append.1 hs with h | h
  · exact hl s h
  · rw [List.mem_singleton] at h; subst h; exact hx

theorem missN_bd {c t : Int} {ks : Nat → Kd} {m : Nat} {e level : Int} {adj : Bool} (hc : 1 ≤ c ∧ c ≤ 3) (ht : 1 ≤ t ∧ t ≤ 3) (hk : KOk ks m) : ∀ (d : Nat) (l : List Smp), 0 ≤ missN c t ks m e level adj d l ∧ missN c t ks m e level adj d l ≤ powI (kTot ks m * (c + t)) d
  | 0, l => by unfold missN; simp only [powI]; split <;> omega
  | d + 1, l => by
    have hT : 0 ≤ kTot ks m * (c + t) := Int.mul_nonneg (by have := kTot_bd hk; omega) (by omega)
    unfold missN
    split
    · exact ⟨powI_pos hT _, Int.le_refl _⟩
    · refine ⟨kS_nonneg (by omega) (by omega) hk fun x _ => (missN_bd hc ht hk d (l ++ [x])).1, ?_⟩
      have h1 := kS_le (F := fun x => missN c t ks m e level adj d (l ++ [x])) (G := fun _ => powI (kTot ks m * (c + t)) d) (c := c) (t := t) (by omega) (by omega) hk fun x _ => (missN_bd hc ht hk d (l ++ [x])).2
      rw [kS_const] at h1
      exact h1

theorem missN_le {c t : Int} {ks : Nat → Kd} {m : Nat} {e level : Int} {adj : Bool} (hc : 1 ≤ c ∧ c ≤ 3) (ht : 1 ≤ t ∧ t ≤ 3) (he : -1000 ≤ e ∧ e ≤ 1000) (hk : KOk ks m) (hm : e * kTot ks m = 50 * kDif ks m) :
    ∀ (d : Nat) (l : List Smp), (∀ s ∈ l, Lv s) → l.length + d ≤ 100 → Fresh l c t adj e level → missN c t ks m e level adj d l * (3 * thrI level 2) ≤ pot l c t adj e * powI (kTot ks m * (c + t)) d
  | 0, l, hl, hn, hF => by
    unfold missN
    simp only [powI, Int.mul_one]
    split
    · rename_i h
      have := exL_pot hc ht he hl (by omega) hF h
      omega
    · have := pot_nonneg l c t adj e
      omega
  | d + 1, l, hl, hn, hF => by
    have hT : 0 ≤ kTot ks m * (c + t) := Int.mul_nonneg (by have := kTot_bd hk; omega) (by omega)
    have hP := powI_pos hT d
    unfold missN
    split
    · rename_i h
      have h1 := exL_pot hc ht he hl (by omega) hF h
      rw [Int.mul_comm]
      exact Int.mul_le_mul_of_nonneg_right h1 (powI_pos hT _)
    · rename_i h
      have h1 := kS_le (F := fun x => missN c t ks m e level adj d (l ++ [x]) * (3 * thrI level 2)) (G := fun x => pot (l ++ [x]) c t adj e * powI (kTot ks m * (c + t)) d) (c := c) (t := t) (by omega) (by omega) hk fun x hx =>
        missN_le hc ht he hk hm d (l ++ [x]) (Lv.snoc hl hx) (by simp; omega) (Fresh.snoc hc ht he hl hx (by omega) h)
      rw [kS_mul, kS_mul] at h1
      have h2 := Int.mul_le_mul_of_nonneg_right (pot_fair (adj := adj) hl hc ht he hk hm) hP
      have e1 : kTot ks m * (c + t) * pot l c t adj e * powI (kTot ks m * (c + t)) d = pot l c t adj e * powI (kTot ks m * (c + t)) (d + 1) := by
        simp only [powI]; grind
      omega

theorem pot_nil (c t : Int) (adj : Bool) (e : Int) : pot [] c t adj e = 25769803776 := rfl

theorem thr_level {level : Int} (h1 : 1 ≤ level) (h2 : level ≤ 999) : 8589934592000 ≤ thrI level 2 * level := by
  unfold thrI
  rw [if_neg (by omega)]
  have h3 := Int.mul_ediv_add_emod (2 * 1000 * 4294967296 + level - 1) level
  have h4 := Int.emod_lt_of_pos (2 * 1000 * 4294967296 + level - 1) (show 0 < level by omega)
  rw [Int.mul_comm] at h3
  omega

/-- The theorem about the level. -/
theorem level_law {c t : Int} {ks : Nat → Kd} {m : Nat} {e level : Int} {adj : Bool} (hc : 1 ≤ c ∧ c ≤ 3) (ht : 1 ≤ t ∧ t ≤ 3) (he : -1000 ≤ e ∧ e ≤ 1000) (hk : KOk ks m) (hm : e * kTot ks m = 50 * kDif ks m) (h1 : 1 ≤ level) (h2 : level ≤ 999) (n : Nat) (hn : n ≤ 100) :
    missN c t ks m e level adj n [] * 1000 ≤ level * powI (kTot ks m * (c + t)) n := by
  have h := missN_le (adj := adj) (level := level) hc ht he hk hm n [] (fun _ h => by cases h) (by simp; omega) (fun _ i hi => by simp at hi)
  have hb := (missN_bd (adj := adj) (level := level) (e := e) hc ht hk n []).1
  have hthr := thr_level h1 h2
  rw [pot_nil] at h
  generalize missN c t ks m e level adj n [] = M at *
  generalize powI (kTot ks m * (c + t)) n = P at *
  generalize thrI level 2 = T at *
  have a1 : M * (3 * T) * level ≤ 25769803776 * P * level := Int.mul_le_mul_of_nonneg_right h (by omega)
  have a2 : M * 8589934592000 ≤ M * (T * level) := Int.mul_le_mul_of_nonneg_left hthr hb
  have e1 : M * (3 * T) * level = 3 * (M * (T * level)) := by grind
  have e2 : 25769803776 * P * level = 25769803776 * (level * P) := by grind
  omega

theorem blk_kept1 {w w' : World} {b : Nat} {o : Obj} (hb : Below w.heap.size w w') (g : w.heap[b]? = some o) : w'.heap[b]? = some o := (hb.block _ (lt_of_blk g)).trans g
theorem cells7 {w : World} {g : Nat} {x0 x1 x2 x3 x4 x5 x6 : Value} {t : TypeId} (h : w.heap[g]? = some (.cells #[x0, x1, x2, x3, x4, x5, x6] t (0, 0))) :
    w.cell? ⟨g, 0, none⟩ = some x0 ∧ w.cell? ⟨g, 1, none⟩ = some x1 ∧ w.cell? ⟨g, 2, none⟩ = some x2 ∧ w.cell? ⟨g, 3, none⟩ = some x3 ∧ w.cell? ⟨g, 4, none⟩ = some x4 ∧ w.cell? ⟨g, 5, none⟩ = some x5 ∧ w.cell? ⟨g, 6, none⟩ = some x6 :=
  ⟨cell_of_block h 0, cell_of_block h 1, cell_of_block h 2, cell_of_block h 3, cell_of_block h 4, cell_of_block h 5, cell_of_block h 6⟩
theorem rows_gW {w : World} {B : Nat} {A : Option Addr} {c t : Int} (h : RowsAt w B 3 A 1 fun i => (([⟨1, c, t⟩] : List Wt).getD i default).cells) : RowsAt w B 3 A 1 fun i => (gW c t i).cells := fun hn => by
  obtain ⟨b, off, hA, hb, hc⟩ := h hn
  refine ⟨b, off, hA, hb, fun i hi j u hu => hc i hi j u ?_⟩
  obtain rfl : i = 0 := by omega
  exact hu
theorem powI_le {P : Int} (h0 : 0 ≤ P) (h1 : P ≤ 36) : ∀ j : Nat, 0 ≤ powI P j ∧ powI P j ≤ 36 ^ j
  | 0 => by simp [powI]
  | j + 1 => by
    obtain ⟨a, b⟩ := powI_le h0 h1 j
    rw [powI, Int.pow_succ]
    exact ⟨Int.mul_nonneg a h0, Int.mul_le_mul b h1 h0 (by omega)⟩
theorem powI_le6 {P : Int} (h0 : 0 ≤ P) (h1 : P ≤ 36) {j : Nat} (hj : j ≤ 6) : 0 ≤ powI P j ∧ powI P j ≤ 2176782336 := by
  obtain ⟨a, b⟩ := powI_le h0 h1 j
  refine ⟨a, Int.le_trans b ?_⟩
  rcases (show j = 0 ∨ j = 1 ∨ j = 2 ∨ j = 3 ∨ j = 4 ∨ j = 5 ∨ j = 6 by omega) with rfl | rfl | rfl | rfl | rfl | rfl | rfl <;> decide
theorem Lv.ins {l : List Smp} (hl : ∀ s ∈ l, Lv s) : InSmp (fun i => l.getD i default) l.length := Smp.made_in (by omega) (fun s hs => (hl s hs).made)

/-- The cells of the kinds. -/
def kC (r0 r1 r2 r3 : Nat → Int) : Nat → List Value := fun i => [.int .u8 (r0 i), .int .u8 (r1 i), .int .u8 (r2 i), .int .u8 (r3 i)]
def KdAt (ks : Nat → Kd) (r0 r1 r2 r3 : Nat → Int) (i : Nat) : Prop := (0 ≤ r0 i ∧ r0 i ≤ 255) ∧ (0 ≤ r1 i ∧ r1 i ≤ 255) ∧ (0 ≤ r2 i ∧ r2 i ≤ 255) ∧ (0 ≤ r3 i ∧ r3 i ≤ 255) ∧ ks i = ⟨1 + r0 i % 3, r1 i % 3, r2 i % 21, r3 i % 21⟩
theorem rows_at {w : World} {B size n b off : Nat} {f : Nat → List Value} (h : RowsAt w B size (some ⟨b, off, none⟩) n f) {i j : Nat} {u : Value} (hi : i < n) (hu : (f i)[j]? = some u) : w.cell? ⟨b, off + i * size + j, none⟩ = some u := by
  obtain ⟨b', o', hA, _, hc⟩ := h (by omega)
  cases hA
  exact hc i hi j u hu
theorem kS_bd {F : Smp → Int} {c t : Int} {ks : Nat → Kd} {r0 r1 r2 r3 : Nat → Int} {m : Nat} (hc : 1 ≤ c ∧ c ≤ 3) (ht : 1 ≤ t ∧ t ≤ 3) (hk : ∀ i, i < m → KdAt ks r0 r1 r2 r3 i) (hF : ∀ x, Lv x → 0 ≤ F x ∧ F x ≤ 2176782336) : ∀ i : Nat, i ≤ m → 0 ≤ kS F c t ks i ∧ kS F c t ks i ≤ i * 39182082048
  | 0, _ => by simp [kS]
  | i + 1, hi => by
    obtain ⟨h1, h2⟩ := kS_bd hc ht hk hF i (by omega)
    obtain ⟨k0, k1, k2, k3, k4⟩ := hk i (by omega)
    have a1 : Lv (uV 1 (ks i).one (ks i).before) := by rw [k4]; exact ⟨.inl rfl, rfl, by simp only [uV]; omega, by simp only [uV]; omega, by simp only [uV]; omega, by simp only [uV]; omega⟩
    have a2 : Lv (uV 2 (ks i).two (ks i).before) := by rw [k4]; exact ⟨.inr rfl, rfl, by simp only [uV]; omega, by simp only [uV]; omega, by simp only [uV]; omega, by simp only [uV]; omega⟩
    have f1 := hF _ a1
    have f2 := hF _ a2
    have hn : 1 ≤ (ks i).num ∧ (ks i).num ≤ 3 := by rw [k4]; dsimp only; omega
    have c1 : 0 ≤ c * (ks i).num ∧ c * (ks i).num ≤ 9 := ⟨Int.mul_nonneg (by omega) (by omega), Int.le_trans (Int.mul_le_mul hc.2 hn.2 (by omega) (by omega)) (by decide)⟩
    have c2 : 0 ≤ t * (ks i).num ∧ t * (ks i).num ≤ 9 := ⟨Int.mul_nonneg (by omega) (by omega), Int.le_trans (Int.mul_le_mul ht.2 hn.2 (by omega) (by omega)) (by decide)⟩
    have d1 : 0 ≤ c * (ks i).num * F (uV 1 (ks i).one (ks i).before) ∧ c * (ks i).num * F (uV 1 (ks i).one (ks i).before) ≤ 9 * 2176782336 := ⟨Int.mul_nonneg c1.1 f1.1, Int.mul_le_mul c1.2 f1.2 f1.1 (by decide)⟩
    have d2 : 0 ≤ t * (ks i).num * F (uV 2 (ks i).two (ks i).before) ∧ t * (ks i).num * F (uV 2 (ks i).two (ks i).before) ≤ 9 * 2176782336 := ⟨Int.mul_nonneg c2.1 f2.1, Int.mul_le_mul c2.2 f2.2 f2.1 (by decide)⟩
    simp only [kS]
    omega

set_option maxRecDepth 100000 in
set_option maxHeartbeats 8000000 in
theorem miss_level (K : Option Addr) (m ck : Nat) (ks : Nat → Kd) (c t e level : Int) (adj : Bool) (N : Nat) (l : List Smp) (A : Option Addr) (cp : Nat) (w : World) (hc : 1 ≤ c ∧ c ≤ 3) (ht : 1 ≤ t ∧ t ≤ 3) (he : -1000 ≤ e ∧ e ≤ 1000) (h1 : 1 ≤ level) (h2 : level ≤ 999) (hN : N ≤ 6) (hlN : l.length ≤ N) (hl : ∀ s ∈ l, Lv s) (hcp : l.length ≤ cp) (hTb : 0 ≤ kTot ks m ∧ kTot ks m ≤ 6)
    (r0 r1 r2 r3 : Nat → Int) (V : Smp → Int) (hm1 : 1 ≤ m) (hm2 : m ≤ 2) (hmc : m ≤ ck) (hkd : ∀ i, i < m → KdAt ks r0 r1 r2 r3 i) (hK : RowsAt w w.heap.size 4 K m (kC r0 r1 r2 r3))
    (hV : l.length < N → ∀ x, Lv x → 0 ≤ V x ∧ V x ≤ 2176782336)
    (hrec : l.length < N → ∀ x, Lv x → ∀ (A' : Option Addr) (cp' : Nat) (w' : World), l.length + 1 ≤ cp' → RowsAt w' w'.heap.size 10 A' (l.length + 1) (fun i => ((l ++ [x]).getD i default).cells) → RowsAt w' w'.heap.size 4 K m (kC r0 r1 r2 r3) →
      Calls Try.prog 76 #[.agg #[.slice K m ck, .int .i64 (kTot ks m), .int .i64 c, .int .i64 t, .int .i64 e, .int .i64 level, .bool adj], .slice A' (l.length + 1) cp', .int .i64 N] w' fun en w2 => en = .returned (.int .i64 (V x)) ∧ Below w'.heap.size w' w2)
    (hR : RowsAt w w.heap.size 10 A l.length fun i => (l.getD i default).cells) :
    Calls Try.prog 76 #[.agg #[.slice K m ck, .int .i64 (kTot ks m), .int .i64 c, .int .i64 t, .int .i64 e, .int .i64 level, .bool adj], .slice A l.length cp, .int .i64 N] w fun en w' => en = .returned (.int .i64 (if exL l c t adj e level = true then powI (kTot ks m * (c + t)) (N - l.length) else if l.length = N then 0 else kS V c t ks m)) ∧ Below w.heap.size w w' := by
  have hb0 : Below w.heap.size w (w.alloc (.cells #[.slice K m ck, .int .i64 (kTot ks m), .int .i64 c, .int .i64 t, .int .i64 e, .int .i64 level, .bool adj] 105)) := (Below.refl _ _).alloc (Nat.le_refl _) _
  have g0 := heap_alloc_new w (.cells #[.slice K m ck, .int .i64 (kTot ks m), .int .i64 c, .int .i64 t, .int .i64 e, .int .i64 level, .bool adj] 105)
  have hin := Lv.ins hl
  have hval := scF_valid (adj := adj) hc ht l hl
  have hlen := scL_len (adj := adj) hc ht l hl
  obtain ⟨T, hT⟩ : ∃ T, kTot ks m = T := ⟨_, rfl⟩
  rw [hT] at hb0 g0 hTb hrec ⊢
  have HREC := Lib.hid hrec
  have HVV := Lib.hid hV
  have HKD := Lib.hid hkd
  obtain ⟨bK, oK, rfl, hbK, -⟩ := hK (by omega)
  have HK := Lib.hid hK
  clear hrec hV hkd hK
  have hPb : 0 ≤ T * (c + t) ∧ T * (c + t) ≤ 36 := ⟨Int.mul_nonneg hTb.1 (by omega), Int.le_trans (Int.mul_le_mul hTb.2 (show c + t ≤ 6 by omega) (by omega) (by omega)) (by decide)⟩
  have HXE := Lib.hid (show exL l c t adj e level = (decide (e < lowR (scF l c t adj) level l.length) || decide (highR (scF l c t adj) level l.length < e)) from rfl)
  have k0 := cells7 g0
  have HIN := Lib.hid hin
  have HV := Lib.hid hval
  have HL := Lib.hid hl
  have HR := Lib.hid hR
  have HX := Lib.hid (And.intro he (And.intro h1 h2))
  have HLN := Lib.hid hlen
  clear hin hval hl hR he h1 h2 hlen
  go_enter Try.func76, Try.ntmps76
  go_wp2_with fail
  have hz : (w.alloc (.cells #[.slice (some ⟨bK, oK, none⟩) m ck, .int .i64 T, .int .i64 c, .int .i64 t, .int .i64 e, .int .i64 level, .bool adj] 105)).heap.size = w.heap.size + 1 := by simp
  generalize w.alloc (.cells #[.slice (some ⟨bK, oK, none⟩) m ck, .int .i64 T, .int .i64 c, .int .i64 t, .int .i64 e, .int .i64 level, .bool adj] 105) = w0 at *
  have gw : (w0.alloc (.cells #[.int .i64 1, .int .i64 c, .int .i64 t] 42)).heap[w0.heap.size]? = some (.cells (([⟨1, c, t⟩] : List Wt).flatMap Wt.cells).toArray 42 (0, 0)) := heap_alloc_new w0 _
  rw [hz] at gw
  have hq : Below w0.heap.size w0 (w0.alloc (.cells #[.int .i64 1, .int .i64 c, .int .i64 t] 42)) := (Below.refl _ _).alloc (Nat.le_refl _) _
  have hW := rows_gW (rows_of_flat Wt.len default gw)
  have hR1 := (HR.out.below hb0 (Nat.le_refl _)).more hb0.size
  replace hR1 := (hR1.below hq (Nat.le_refl _)).more hq.size
  replace g0 := blk_kept1 hq g0
  replace hb0 := below_trans' hb0 hb0.size hq
  clear hq gw k0 hz
  generalize w0.alloc (.cells #[.int .i64 1, .int .i64 c, .int .i64 t] 42) = w1 at *
  with_reducible refine (all42 A l.length cp (fun i => l.getD i default) (some ⟨w.heap.size + 1, 0, none⟩) 1 1 (gW c t) 20 adj w1 (by omega) hcp (by omega) hR1 HIN.out hW).mono ?_
  rintro en w2 ⟨v, rfl, hown, hq⟩
  change OwnScr w2 w1.heap.size v (scL l c t adj) at hown
  obtain ⟨A2, cp2, rfl, hcp2⟩ := Own.shape hown
  have hrow := Own.rows (c := Scr.cells) (fun _ => rfl) S0 hown
  rw [HLN.out] at hrow hcp2 ⊢
  replace g0 := blk_kept1 hq g0
  replace hb0 := below_trans' hb0 hb0.size hq
  replace hR1 := (hR1.below hq (Nat.le_refl _)).more hq.size
  have hsb : ∀ k, k < l.length → -9223372036854775808 ≤ (scF l c t adj k).unit ∧ (scF l c t adj k).rng ≤ 9223372036854775807 := fun k hk => by
    have h := HV.out k hk
    simp only [vldS, Bool.and_eq_true, decide_eq_true_eq] at h
    omega
  have HLO := Lib.hid (fun w' r => lower68 A2 l.length cp2 (scF l c t adj) level w' (by omega) r hsb)
  have HHI := Lib.hid (fun w' r => upper70 A2 l.length cp2 (scF l c t adj) level w' (by omega) r hsb)
  clear hown hW HIN HV hsb hq
  go_upto_region 2 with fail
  obtain ⟨LO, hLO⟩ : ∃ x, lowR (scF l c t adj) level l.length = x := ⟨_, rfl⟩
  obtain ⟨HI, hHI⟩ : ∃ x, highR (scF l c t adj) level l.length = x := ⟨_, rfl⟩
  rw [hLO] at HLO
  have HLOe := Lib.hid hLO
  have HHIe := Lib.hid hHI
  rw [hHI] at HHI
  obtain ⟨C5, hC5⟩ : ∃ C : World → Prop, C = fun w' => w'.cell? ⟨w.heap.size, 5, none⟩ = some (.int .i64 level) := ⟨_, rfl⟩
  obtain ⟨C4, hC4⟩ : ∃ C : World → Prop, C = fun w' => w'.cell? ⟨w.heap.size, 4, none⟩ = some (.int .i64 e) := ⟨_, rfl⟩
  have hq : Below w2.heap.size w2 w2.drew := (Below.refl _ _).drew
  have g1 := blk_kept1 hq g0
  have r1 := (hrow.below hq (Nat.le_refl _)).more hq.size
  have hb1 := below_trans' hb0 hb0.size hq
  have HC5 := Lib.hid hC5
  have HC4 := Lib.hid hC4
  clear hq
  by_cases hlo : e < LO
  · have lift : ∀ w', w'.heap[w.heap.size]? = some (.cells #[.slice (some ⟨bK, oK, none⟩) m ck, .int .i64 T, .int .i64 c, .int .i64 t, .int .i64 e, .int .i64 level, .bool adj] 105 (0, 0)) → ∀ listed, held [(3, C5), (6, C4)] listed w' := fun w' h listed p hp _ => by
      simp only [List.mem_cons, List.not_mem_nil, or_false] at hp
      rcases hp with rfl | rfl
      · rw [hC5]; exact (cells7 h).2.2.2.2.2.1
      · rw [hC4]; exact (cells7 h).2.2.2.2.1
    have HS := lift w2.drew g1 (Array.replicate 16 false)
    have LIFT := Lib.hid lift
    clear lift hC5 hC4
    refine wp_region_heldT [(3, C5), (6, C4)] (by kernel_rfl) ?_
    rw [show ∀ l : List Oper, l.toArray.size = l.length from fun _ => rfl]
    simp only [List.length_cons, List.length_nil, Nat.reduceAdd]
    generalize w2.drew = w3 at *
    refine hT_on (i := 0) (d := (some 27)) (v := ?_) (a' := ?_) (by kernel_rfl) (by kernel_rfl) (by kernel_rfl) (by kernel_rfl) (by kernel_rfl) (fun _ _ _ h => h) HS ?_ ?_ ?_
    rotate_left 2
    · (intro o ho w'; simp only [List.getElem?_toArray, List.getElem?_cons_zero, Option.some.injEq] at ho; subst ho; go_simp; try with_reducible rfl)
    · (simp only [Act.put, List.setIfInBounds_toArray, List.set_cons_succ, List.set_cons_zero]; rfl)
    clear HS; intro HS
    refine hT_on (i := 1) (d := (some 28)) (v := ?_) (a' := ?_) (by kernel_rfl) (by kernel_rfl) (by kernel_rfl) (by kernel_rfl) (by kernel_rfl) (fun _ _ _ h => h) HS ?_ ?_ ?_
    rotate_left 2
    · (intro o ho w'; simp only [List.getElem?_toArray, List.getElem?_cons_succ, List.getElem?_cons_zero, Option.some.injEq] at ho; subst ho; go_simp; try with_reducible rfl)
    · (simp only [Act.put, List.setIfInBounds_toArray, List.set_cons_succ, List.set_cons_zero]; rfl)
    clear HS; intro HS
    refine hT_ld (i := 2) (m := 3) (C := C5) (d := (some 29)) (v := ?_) (a' := ?_) (by kernel_rfl) (by kernel_rfl) (by kernel_rfl) (by kernel_rfl) (by kernel_rfl) (by kernel_rfl) (by simp) (by kernel_rfl) (fun _ _ _ h => h) HS ?_ ?_ ?_
    rotate_left 2
    · (intro o ho w' hC; rw [HC5.out] at hC; simp only [List.getElem?_toArray, List.getElem?_cons_succ, List.getElem?_cons_zero, Option.some.injEq] at ho; subst ho; (try dsimp only at hC); go_simp; try with_reducible rfl)
    · (simp only [Act.put, List.setIfInBounds_toArray, List.set_cons_succ, List.set_cons_zero]; rfl)
    clear HS; intro HS
    refine hT_on (i := 4) (d := (some 31)) (v := ?_) (a' := ?_) (by kernel_rfl) (by kernel_rfl) (by kernel_rfl) (by kernel_rfl) (by kernel_rfl) (fun _ _ _ h => h) HS ?_ ?_ ?_
    rotate_left 2
    · (intro o ho w'; simp only [List.getElem?_toArray, List.getElem?_cons_succ, List.getElem?_cons_zero, Option.some.injEq] at ho; subst ho; go_simp; try with_reducible rfl)
    · (simp only [Act.put, List.setIfInBounds_toArray, List.set_cons_succ, List.set_cons_zero]; rfl)
    clear HS; intro HS
    refine hT_ld (i := 5) (m := 6) (C := C4) (d := (some 32)) (v := ?_) (a' := ?_) (by kernel_rfl) (by kernel_rfl) (by kernel_rfl) (by kernel_rfl) (by kernel_rfl) (by kernel_rfl) (by simp) (by kernel_rfl) (fun _ _ _ h => h) HS ?_ ?_ ?_
    rotate_left 2
    · (intro o ho w' hC; rw [HC4.out] at hC; simp only [List.getElem?_toArray, List.getElem?_cons_succ, List.getElem?_cons_zero, Option.some.injEq] at ho; subst ho; (try dsimp only at hC); go_simp; try with_reducible rfl)
    · (simp only [Act.put, List.setIfInBounds_toArray, List.set_cons_succ, List.set_cons_zero]; rfl)
    clear HS; intro HS
    refine hT_one (i := 3) (by kernel_rfl) (fun o ho K hK => ?_)
    simp only [List.getElem?_toArray, List.getElem?_cons_succ, List.getElem?_cons_zero, Option.some.injEq] at ho; subst ho
    go_simp
    go_at_call 68
    refine (HLO.out _ r1).mono ?_
    rintro en w4 ⟨rfl, hq⟩
    replace g1 := blk_kept1 hq g1
    replace r1 := (r1.below hq (Nat.le_refl _)).more hq.size
    replace hb1 := below_trans' hb1 hb1.size hq
    clear hq
    refine hK.out _ _ ?_ (fun HS' => ?_)
    · exact LIFT.out w4 g1 _
    clear hK K HS; have HS := HS'; clear HS'
    (try simp only [Act.put, List.setIfInBounds_toArray, List.set_cons_zero, List.set_cons_succ])
    refine hT_one (i := 6) (by kernel_rfl) (fun o ho K hK => ?_)
    simp only [List.getElem?_toArray, List.getElem?_cons_succ, List.getElem?_cons_zero, Option.some.injEq] at ho; subst ho
    go_simp
    refine hK.out _ _ ?_ (fun HS' => ?_)
    · exact LIFT.out w4 g1 _
    clear hK K HS; have HS := HS'; clear HS'
    (try simp only [Act.put, List.setIfInBounds_toArray, List.set_cons_zero, List.set_cons_succ])
    refine hT_on (i := 7) (d := (some 34)) (v := ?_) (a' := ?_) (by kernel_rfl) (by kernel_rfl) (by kernel_rfl) (by kernel_rfl) (by kernel_rfl) (fun _ _ _ h => h) HS ?_ ?_ ?_
    rotate_left 2
    · (intro o ho w'; simp only [List.getElem?_toArray, List.getElem?_cons_succ, List.getElem?_cons_zero, Option.some.injEq] at ho; subst ho; go_simp; try with_reducible rfl)
    · (simp only [Act.put, List.setIfInBounds_toArray, List.set_cons_succ, List.set_cons_zero]; rfl)
    clear HS; intro HS
    refine hT_off (i := 8) (d := (some 35)) (a' := ?_) (by kernel_rfl) (by kernel_rfl) (by kernel_rfl) (by kernel_rfl) (by kernel_rfl) (fun _ _ _ h => h) HS ?_ ?_
    rotate_left 1
    · (simp only [Act.put, List.setIfInBounds_toArray, List.set_cons_succ, List.set_cons_zero]; rfl)
    clear HS; intro HS
    refine hT_off (i := 9) (d := (some 36)) (a' := ?_) (by kernel_rfl) (by kernel_rfl) (by kernel_rfl) (by kernel_rfl) (by kernel_rfl) (fun _ _ _ h => h) HS ?_ ?_
    rotate_left 1
    · (simp only [Act.put, List.setIfInBounds_toArray, List.set_cons_succ, List.set_cons_zero]; rfl)
    clear HS; intro HS
    refine hT_off (i := 10) (d := (some 37)) (a' := ?_) (by kernel_rfl) (by kernel_rfl) (by kernel_rfl) (by kernel_rfl) (by kernel_rfl) (fun _ _ _ h => h) HS ?_ ?_
    rotate_left 1
    · (simp only [Act.put, List.setIfInBounds_toArray, List.set_cons_succ, List.set_cons_zero]; rfl)
    clear HS; intro HS
    refine hT_off (i := 11) (d := (some 38)) (a' := ?_) (by kernel_rfl) (by kernel_rfl) (by kernel_rfl) (by kernel_rfl) (by kernel_rfl) (fun _ _ _ h => h) HS ?_ ?_
    rotate_left 1
    · (simp only [Act.put, List.setIfInBounds_toArray, List.set_cons_succ, List.set_cons_zero]; rfl)
    clear HS; intro HS
    refine hT_off (i := 12) (d := (some 39)) (a' := ?_) (by kernel_rfl) (by kernel_rfl) (by kernel_rfl) (by kernel_rfl) (by kernel_rfl) (fun _ _ _ h => h) HS ?_ ?_
    rotate_left 1
    · (simp only [Act.put, List.setIfInBounds_toArray, List.set_cons_succ, List.set_cons_zero]; rfl)
    clear HS; intro HS
    refine hT_off (i := 13) (d := (some 40)) (a' := ?_) (by kernel_rfl) (by kernel_rfl) (by kernel_rfl) (by kernel_rfl) (by kernel_rfl) (fun _ _ _ h => h) HS ?_ ?_
    rotate_left 1
    · (simp only [Act.put, List.setIfInBounds_toArray, List.set_cons_succ, List.set_cons_zero]; rfl)
    clear HS; intro HS
    refine hT_off (i := 14) (d := (some 41)) (a' := ?_) (by kernel_rfl) (by kernel_rfl) (by kernel_rfl) (by kernel_rfl) (by kernel_rfl) (fun _ _ _ h => h) HS ?_ ?_
    rotate_left 1
    · (simp only [Act.put, List.setIfInBounds_toArray, List.set_cons_succ, List.set_cons_zero]; rfl)
    clear HS; intro HS
    refine hT_on (i := 15) (d := (some 42)) (v := ?_) (a' := ?_) (by kernel_rfl) (by kernel_rfl) (by kernel_rfl) (by kernel_rfl) (by kernel_rfl) (fun _ _ _ h => h) HS ?_ ?_ ?_
    rotate_left 2
    · (intro o ho w'; simp only [List.getElem?_toArray, List.getElem?_cons_succ, List.getElem?_cons_zero, Option.some.injEq] at ho; subst ho; go_simp; try with_reducible rfl)
    · (simp only [Act.put, List.setIfInBounds_toArray, List.set_cons_succ, List.set_cons_zero]; rfl)
    clear HS; intro HS
    refine held_done (by kernel_rfl) ?_ _
    have hX : exL l c t adj e level = true := by rw [HXE.out, HLOe.out, HHIe.out]; simp [hlo]
    obtain ⟨R, hRR⟩ : ∃ R, powI (T * (c + t)) (N - l.length) = R := ⟨_, rfl⟩
    have HRR := Lib.hid hRR
    have HXX := Lib.hid hX
    clear hRR hX
    go_upto_region 4 with fail
    obtain ⟨y0, y1, y2, y3, y4, y5, y6⟩ := cells7 g1
    go_upto_region 5 with fail
    go_loopg [8, 9] (N - l.length) (fun mm s8 s9 wr => ∃ j : Nat, j ≤ N - l.length ∧ mm = N - l.length - j ∧ s8 = .int .i64 (powI (T * (c + t)) j) ∧ s9 = .int .i64 ((l.length : Int) + j) ∧ w4 = wr)
    case atStart => exact ⟨0, by omega, by omega, rfl, by go_num, rfl⟩
    case round =>
      obtain ⟨j, hj, hm, rfl, rfl, rfl⟩ := hrel
      have HM := Lib.hid hm
      clear hm
      have q1 := powI_le6 hPb.1 hPb.2 (j := j) (by omega)
      by_cases hjn : j < N - l.length
      · have hd : ((l.length : Int) + j) < N := by omega
        have q2 := powI_le6 hPb.1 hPb.2 (j := j + 1) (by omega)
        have e2 : powI (T * (c + t)) (j + 1) = powI (T * (c + t)) j * (T * (c + t)) := rfl
        rw [e2] at q2
        have n1 : IntKind.i64.wrap (T * (c + t)) = T * (c + t) := IntWalk.i64_in _ (by omega)
        have n2 : IntKind.i64.wrap (powI (T * (c + t)) j * (T * (c + t))) = powI (T * (c + t)) j * (T * (c + t)) := IntWalk.i64_in _ (by omega)
        go_wp2_with fail
        go_roundg (N - l.length - (j + 1))
        case measure => have := HM.out; omega
        case rel => exact ⟨j + 1, by omega, rfl, rfl, by go_num, rfl⟩
      · have hjn2 : j = N - l.length := by omega
        have hd : ¬ ((l.length : Int) + j) < N := by omega
        have HJ := Lib.hid hjn2
        go_wp2_with fail
        go_ret
        exact ⟨rfl, hb1⟩
  · have lift : ∀ w', w'.heap[w.heap.size]? = some (.cells #[.slice (some ⟨bK, oK, none⟩) m ck, .int .i64 T, .int .i64 c, .int .i64 t, .int .i64 e, .int .i64 level, .bool adj] 105 (0, 0)) → ∀ listed, held [(3, C5), (6, C4), (11, C5), (14, C4)] listed w' := fun w' h listed p hp _ => by
      simp only [List.mem_cons, List.not_mem_nil, or_false] at hp
      rcases hp with rfl | rfl | rfl | rfl
      · rw [hC5]; exact (cells7 h).2.2.2.2.2.1
      · rw [hC4]; exact (cells7 h).2.2.2.2.1
      · rw [hC5]; exact (cells7 h).2.2.2.2.2.1
      · rw [hC4]; exact (cells7 h).2.2.2.2.1
    have HS := lift w2.drew g1 (Array.replicate 16 false)
    have LIFT := Lib.hid lift
    clear lift hC5 hC4
    refine wp_region_heldT [(3, C5), (6, C4), (11, C5), (14, C4)] (by kernel_rfl) ?_
    rw [show ∀ l : List Oper, l.toArray.size = l.length from fun _ => rfl]
    simp only [List.length_cons, List.length_nil, Nat.reduceAdd]
    generalize w2.drew = w3 at *
    by_cases hhi : HI < e
    · skip
      refine hT_on (i := 0) (d := (some 27)) (v := ?_) (a' := ?_) (by kernel_rfl) (by kernel_rfl) (by kernel_rfl) (by kernel_rfl) (by kernel_rfl) (fun _ _ _ h => h) HS ?_ ?_ ?_
      rotate_left 2
      · (intro o ho w'; simp only [List.getElem?_toArray, List.getElem?_cons_zero, Option.some.injEq] at ho; subst ho; go_simp; try with_reducible rfl)
      · (simp only [Act.put, List.setIfInBounds_toArray, List.set_cons_succ, List.set_cons_zero]; rfl)
      clear HS; intro HS
      refine hT_on (i := 1) (d := (some 28)) (v := ?_) (a' := ?_) (by kernel_rfl) (by kernel_rfl) (by kernel_rfl) (by kernel_rfl) (by kernel_rfl) (fun _ _ _ h => h) HS ?_ ?_ ?_
      rotate_left 2
      · (intro o ho w'; simp only [List.getElem?_toArray, List.getElem?_cons_succ, List.getElem?_cons_zero, Option.some.injEq] at ho; subst ho; go_simp; try with_reducible rfl)
      · (simp only [Act.put, List.setIfInBounds_toArray, List.set_cons_succ, List.set_cons_zero]; rfl)
      clear HS; intro HS
      refine hT_ld (i := 2) (m := 3) (C := C5) (d := (some 29)) (v := ?_) (a' := ?_) (by kernel_rfl) (by kernel_rfl) (by kernel_rfl) (by kernel_rfl) (by kernel_rfl) (by kernel_rfl) (by simp) (by kernel_rfl) (fun _ _ _ h => h) HS ?_ ?_ ?_
      rotate_left 2
      · (intro o ho w' hC; rw [HC5.out] at hC; simp only [List.getElem?_toArray, List.getElem?_cons_succ, List.getElem?_cons_zero, Option.some.injEq] at ho; subst ho; (try dsimp only at hC); go_simp; try with_reducible rfl)
      · (simp only [Act.put, List.setIfInBounds_toArray, List.set_cons_succ, List.set_cons_zero]; rfl)
      clear HS; intro HS
      refine hT_on (i := 4) (d := (some 31)) (v := ?_) (a' := ?_) (by kernel_rfl) (by kernel_rfl) (by kernel_rfl) (by kernel_rfl) (by kernel_rfl) (fun _ _ _ h => h) HS ?_ ?_ ?_
      rotate_left 2
      · (intro o ho w'; simp only [List.getElem?_toArray, List.getElem?_cons_succ, List.getElem?_cons_zero, Option.some.injEq] at ho; subst ho; go_simp; try with_reducible rfl)
      · (simp only [Act.put, List.setIfInBounds_toArray, List.set_cons_succ, List.set_cons_zero]; rfl)
      clear HS; intro HS
      refine hT_ld (i := 5) (m := 6) (C := C4) (d := (some 32)) (v := ?_) (a' := ?_) (by kernel_rfl) (by kernel_rfl) (by kernel_rfl) (by kernel_rfl) (by kernel_rfl) (by kernel_rfl) (by simp) (by kernel_rfl) (fun _ _ _ h => h) HS ?_ ?_ ?_
      rotate_left 2
      · (intro o ho w' hC; rw [HC4.out] at hC; simp only [List.getElem?_toArray, List.getElem?_cons_succ, List.getElem?_cons_zero, Option.some.injEq] at ho; subst ho; (try dsimp only at hC); go_simp; try with_reducible rfl)
      · (simp only [Act.put, List.setIfInBounds_toArray, List.set_cons_succ, List.set_cons_zero]; rfl)
      clear HS; intro HS
      refine hT_one (i := 3) (by kernel_rfl) (fun o ho K hK => ?_)
      simp only [List.getElem?_toArray, List.getElem?_cons_succ, List.getElem?_cons_zero, Option.some.injEq] at ho; subst ho
      go_simp
      go_at_call 68
      refine (HLO.out _ r1).mono ?_
      rintro en w4 ⟨rfl, hq⟩
      replace g1 := blk_kept1 hq g1
      replace r1 := (r1.below hq (Nat.le_refl _)).more hq.size
      replace hb1 := below_trans' hb1 hb1.size hq
      clear hq
      refine hK.out _ _ ?_ (fun HS' => ?_)
      · exact LIFT.out w4 g1 _
      clear hK K HS; have HS := HS'; clear HS'
      (try simp only [Act.put, List.setIfInBounds_toArray, List.set_cons_zero, List.set_cons_succ])
      refine hT_one (i := 6) (by kernel_rfl) (fun o ho K hK => ?_)
      simp only [List.getElem?_toArray, List.getElem?_cons_succ, List.getElem?_cons_zero, Option.some.injEq] at ho; subst ho
      go_simp
      refine hK.out _ _ ?_ (fun HS' => ?_)
      · exact LIFT.out w4 g1 _
      clear hK K HS; have HS := HS'; clear HS'
      (try simp only [Act.put, List.setIfInBounds_toArray, List.set_cons_zero, List.set_cons_succ])
      refine hT_on (i := 7) (d := (some 34)) (v := ?_) (a' := ?_) (by kernel_rfl) (by kernel_rfl) (by kernel_rfl) (by kernel_rfl) (by kernel_rfl) (fun _ _ _ h => h) HS ?_ ?_ ?_
      rotate_left 2
      · (intro o ho w'; simp only [List.getElem?_toArray, List.getElem?_cons_succ, List.getElem?_cons_zero, Option.some.injEq] at ho; subst ho; go_simp; try with_reducible rfl)
      · (simp only [Act.put, List.setIfInBounds_toArray, List.set_cons_succ, List.set_cons_zero]; rfl)
      clear HS; intro HS
      refine hT_on (i := 8) (d := (some 35)) (v := ?_) (a' := ?_) (by kernel_rfl) (by kernel_rfl) (by kernel_rfl) (by kernel_rfl) (by kernel_rfl) (fun _ _ _ h => h) HS ?_ ?_ ?_
      rotate_left 2
      · (intro o ho w'; simp only [List.getElem?_toArray, List.getElem?_cons_succ, List.getElem?_cons_zero, Option.some.injEq] at ho; subst ho; go_simp; try with_reducible rfl)
      · (simp only [Act.put, List.setIfInBounds_toArray, List.set_cons_succ, List.set_cons_zero]; rfl)
      clear HS; intro HS
      refine hT_on (i := 9) (d := (some 36)) (v := ?_) (a' := ?_) (by kernel_rfl) (by kernel_rfl) (by kernel_rfl) (by kernel_rfl) (by kernel_rfl) (fun _ _ _ h => h) HS ?_ ?_ ?_
      rotate_left 2
      · (intro o ho w'; simp only [List.getElem?_toArray, List.getElem?_cons_succ, List.getElem?_cons_zero, Option.some.injEq] at ho; subst ho; go_simp; try with_reducible rfl)
      · (simp only [Act.put, List.setIfInBounds_toArray, List.set_cons_succ, List.set_cons_zero]; rfl)
      clear HS; intro HS
      refine hT_ld (i := 10) (m := 11) (C := C5) (d := (some 37)) (v := ?_) (a' := ?_) (by kernel_rfl) (by kernel_rfl) (by kernel_rfl) (by kernel_rfl) (by kernel_rfl) (by kernel_rfl) (by simp) (by kernel_rfl) (fun _ _ _ h => h) HS ?_ ?_ ?_
      rotate_left 2
      · (intro o ho w' hC; rw [HC5.out] at hC; simp only [List.getElem?_toArray, List.getElem?_cons_succ, List.getElem?_cons_zero, Option.some.injEq] at ho; subst ho; (try dsimp only at hC); go_simp; try with_reducible rfl)
      · (simp only [Act.put, List.setIfInBounds_toArray, List.set_cons_succ, List.set_cons_zero]; rfl)
      clear HS; intro HS
      refine hT_on (i := 12) (d := (some 39)) (v := ?_) (a' := ?_) (by kernel_rfl) (by kernel_rfl) (by kernel_rfl) (by kernel_rfl) (by kernel_rfl) (fun _ _ _ h => h) HS ?_ ?_ ?_
      rotate_left 2
      · (intro o ho w'; simp only [List.getElem?_toArray, List.getElem?_cons_succ, List.getElem?_cons_zero, Option.some.injEq] at ho; subst ho; go_simp; try with_reducible rfl)
      · (simp only [Act.put, List.setIfInBounds_toArray, List.set_cons_succ, List.set_cons_zero]; rfl)
      clear HS; intro HS
      refine hT_ld (i := 13) (m := 14) (C := C4) (d := (some 40)) (v := ?_) (a' := ?_) (by kernel_rfl) (by kernel_rfl) (by kernel_rfl) (by kernel_rfl) (by kernel_rfl) (by kernel_rfl) (by simp) (by kernel_rfl) (fun _ _ _ h => h) HS ?_ ?_ ?_
      rotate_left 2
      · (intro o ho w' hC; rw [HC4.out] at hC; simp only [List.getElem?_toArray, List.getElem?_cons_succ, List.getElem?_cons_zero, Option.some.injEq] at ho; subst ho; (try dsimp only at hC); go_simp; try with_reducible rfl)
      · (simp only [Act.put, List.setIfInBounds_toArray, List.set_cons_succ, List.set_cons_zero]; rfl)
      clear HS; intro HS
      refine hT_one (i := 11) (by kernel_rfl) (fun o ho K hK => ?_)
      simp only [List.getElem?_toArray, List.getElem?_cons_succ, List.getElem?_cons_zero, Option.some.injEq] at ho; subst ho
      go_simp
      go_at_call 70
      refine (HHI.out _ r1).mono ?_
      rintro en w5 ⟨rfl, hq⟩
      replace g1 := blk_kept1 hq g1
      replace r1 := (r1.below hq (Nat.le_refl _)).more hq.size
      replace hb1 := below_trans' hb1 hb1.size hq
      clear hq
      refine hK.out _ _ ?_ (fun HS' => ?_)
      · exact LIFT.out w5 g1 _
      clear hK K HS; have HS := HS'; clear HS'
      (try simp only [Act.put, List.setIfInBounds_toArray, List.set_cons_zero, List.set_cons_succ])
      refine hT_one (i := 14) (by kernel_rfl) (fun o ho K hK => ?_)
      simp only [List.getElem?_toArray, List.getElem?_cons_succ, List.getElem?_cons_zero, Option.some.injEq] at ho; subst ho
      go_simp
      refine hK.out _ _ ?_ (fun HS' => ?_)
      · exact LIFT.out w5 g1 _
      clear hK K HS; have HS := HS'; clear HS'
      (try simp only [Act.put, List.setIfInBounds_toArray, List.set_cons_zero, List.set_cons_succ])
      refine hT_on (i := 15) (d := (some 42)) (v := ?_) (a' := ?_) (by kernel_rfl) (by kernel_rfl) (by kernel_rfl) (by kernel_rfl) (by kernel_rfl) (fun _ _ _ h => h) HS ?_ ?_ ?_
      rotate_left 2
      · (intro o ho w'; simp only [List.getElem?_toArray, List.getElem?_cons_succ, List.getElem?_cons_zero, Option.some.injEq] at ho; subst ho; go_simp; try with_reducible rfl)
      · (simp only [Act.put, List.setIfInBounds_toArray, List.set_cons_succ, List.set_cons_zero]; rfl)
      clear HS; intro HS
      refine held_done (by kernel_rfl) ?_ _
      have hX : exL l c t adj e level = true := by rw [HXE.out, HLOe.out, HHIe.out]; simp [hhi]
      obtain ⟨R, hRR⟩ : ∃ R, powI (T * (c + t)) (N - l.length) = R := ⟨_, rfl⟩
      have HRR := Lib.hid hRR
      have HXX := Lib.hid hX
      clear hRR hX
      go_upto_region 4 with fail
      obtain ⟨y0, y1, y2, y3, y4, y5, y6⟩ := cells7 g1
      go_upto_region 5 with fail
      go_loopg [8, 9] (N - l.length) (fun mm s8 s9 wr => ∃ j : Nat, j ≤ N - l.length ∧ mm = N - l.length - j ∧ s8 = .int .i64 (powI (T * (c + t)) j) ∧ s9 = .int .i64 ((l.length : Int) + j) ∧ w5 = wr)
      case atStart => exact ⟨0, by omega, by omega, rfl, by go_num, rfl⟩
      case round =>
        obtain ⟨j, hj, hm, rfl, rfl, rfl⟩ := hrel
        have HM := Lib.hid hm
        clear hm
        have q1 := powI_le6 hPb.1 hPb.2 (j := j) (by omega)
        by_cases hjn : j < N - l.length
        · have hd : ((l.length : Int) + j) < N := by omega
          have q2 := powI_le6 hPb.1 hPb.2 (j := j + 1) (by omega)
          have e2 : powI (T * (c + t)) (j + 1) = powI (T * (c + t)) j * (T * (c + t)) := rfl
          rw [e2] at q2
          have n1 : IntKind.i64.wrap (T * (c + t)) = T * (c + t) := IntWalk.i64_in _ (by omega)
          have n2 : IntKind.i64.wrap (powI (T * (c + t)) j * (T * (c + t))) = powI (T * (c + t)) j * (T * (c + t)) := IntWalk.i64_in _ (by omega)
          go_wp2_with fail
          go_roundg (N - l.length - (j + 1))
          case measure => have := HM.out; omega
          case rel => exact ⟨j + 1, by omega, rfl, rfl, by go_num, rfl⟩
        · have hjn2 : j = N - l.length := by omega
          have hd : ¬ ((l.length : Int) + j) < N := by omega
          have HJ := Lib.hid hjn2
          go_wp2_with fail
          go_ret
          exact ⟨rfl, hb1⟩
    · skip
      refine hT_on (i := 0) (d := (some 27)) (v := ?_) (a' := ?_) (by kernel_rfl) (by kernel_rfl) (by kernel_rfl) (by kernel_rfl) (by kernel_rfl) (fun _ _ _ h => h) HS ?_ ?_ ?_
      rotate_left 2
      · (intro o ho w'; simp only [List.getElem?_toArray, List.getElem?_cons_zero, Option.some.injEq] at ho; subst ho; go_simp; try with_reducible rfl)
      · (simp only [Act.put, List.setIfInBounds_toArray, List.set_cons_succ, List.set_cons_zero]; rfl)
      clear HS; intro HS
      refine hT_on (i := 1) (d := (some 28)) (v := ?_) (a' := ?_) (by kernel_rfl) (by kernel_rfl) (by kernel_rfl) (by kernel_rfl) (by kernel_rfl) (fun _ _ _ h => h) HS ?_ ?_ ?_
      rotate_left 2
      · (intro o ho w'; simp only [List.getElem?_toArray, List.getElem?_cons_succ, List.getElem?_cons_zero, Option.some.injEq] at ho; subst ho; go_simp; try with_reducible rfl)
      · (simp only [Act.put, List.setIfInBounds_toArray, List.set_cons_succ, List.set_cons_zero]; rfl)
      clear HS; intro HS
      refine hT_ld (i := 2) (m := 3) (C := C5) (d := (some 29)) (v := ?_) (a' := ?_) (by kernel_rfl) (by kernel_rfl) (by kernel_rfl) (by kernel_rfl) (by kernel_rfl) (by kernel_rfl) (by simp) (by kernel_rfl) (fun _ _ _ h => h) HS ?_ ?_ ?_
      rotate_left 2
      · (intro o ho w' hC; rw [HC5.out] at hC; simp only [List.getElem?_toArray, List.getElem?_cons_succ, List.getElem?_cons_zero, Option.some.injEq] at ho; subst ho; (try dsimp only at hC); go_simp; try with_reducible rfl)
      · (simp only [Act.put, List.setIfInBounds_toArray, List.set_cons_succ, List.set_cons_zero]; rfl)
      clear HS; intro HS
      refine hT_on (i := 4) (d := (some 31)) (v := ?_) (a' := ?_) (by kernel_rfl) (by kernel_rfl) (by kernel_rfl) (by kernel_rfl) (by kernel_rfl) (fun _ _ _ h => h) HS ?_ ?_ ?_
      rotate_left 2
      · (intro o ho w'; simp only [List.getElem?_toArray, List.getElem?_cons_succ, List.getElem?_cons_zero, Option.some.injEq] at ho; subst ho; go_simp; try with_reducible rfl)
      · (simp only [Act.put, List.setIfInBounds_toArray, List.set_cons_succ, List.set_cons_zero]; rfl)
      clear HS; intro HS
      refine hT_ld (i := 5) (m := 6) (C := C4) (d := (some 32)) (v := ?_) (a' := ?_) (by kernel_rfl) (by kernel_rfl) (by kernel_rfl) (by kernel_rfl) (by kernel_rfl) (by kernel_rfl) (by simp) (by kernel_rfl) (fun _ _ _ h => h) HS ?_ ?_ ?_
      rotate_left 2
      · (intro o ho w' hC; rw [HC4.out] at hC; simp only [List.getElem?_toArray, List.getElem?_cons_succ, List.getElem?_cons_zero, Option.some.injEq] at ho; subst ho; (try dsimp only at hC); go_simp; try with_reducible rfl)
      · (simp only [Act.put, List.setIfInBounds_toArray, List.set_cons_succ, List.set_cons_zero]; rfl)
      clear HS; intro HS
      refine hT_one (i := 3) (by kernel_rfl) (fun o ho K hK => ?_)
      simp only [List.getElem?_toArray, List.getElem?_cons_succ, List.getElem?_cons_zero, Option.some.injEq] at ho; subst ho
      go_simp
      go_at_call 68
      refine (HLO.out _ r1).mono ?_
      rintro en w4 ⟨rfl, hq⟩
      replace g1 := blk_kept1 hq g1
      replace r1 := (r1.below hq (Nat.le_refl _)).more hq.size
      replace hb1 := below_trans' hb1 hb1.size hq
      clear hq
      refine hK.out _ _ ?_ (fun HS' => ?_)
      · exact LIFT.out w4 g1 _
      clear hK K HS; have HS := HS'; clear HS'
      (try simp only [Act.put, List.setIfInBounds_toArray, List.set_cons_zero, List.set_cons_succ])
      refine hT_one (i := 6) (by kernel_rfl) (fun o ho K hK => ?_)
      simp only [List.getElem?_toArray, List.getElem?_cons_succ, List.getElem?_cons_zero, Option.some.injEq] at ho; subst ho
      go_simp
      refine hK.out _ _ ?_ (fun HS' => ?_)
      · exact LIFT.out w4 g1 _
      clear hK K HS; have HS := HS'; clear HS'
      (try simp only [Act.put, List.setIfInBounds_toArray, List.set_cons_zero, List.set_cons_succ])
      refine hT_on (i := 7) (d := (some 34)) (v := ?_) (a' := ?_) (by kernel_rfl) (by kernel_rfl) (by kernel_rfl) (by kernel_rfl) (by kernel_rfl) (fun _ _ _ h => h) HS ?_ ?_ ?_
      rotate_left 2
      · (intro o ho w'; simp only [List.getElem?_toArray, List.getElem?_cons_succ, List.getElem?_cons_zero, Option.some.injEq] at ho; subst ho; go_simp; try with_reducible rfl)
      · (simp only [Act.put, List.setIfInBounds_toArray, List.set_cons_succ, List.set_cons_zero]; rfl)
      clear HS; intro HS
      refine hT_on (i := 8) (d := (some 35)) (v := ?_) (a' := ?_) (by kernel_rfl) (by kernel_rfl) (by kernel_rfl) (by kernel_rfl) (by kernel_rfl) (fun _ _ _ h => h) HS ?_ ?_ ?_
      rotate_left 2
      · (intro o ho w'; simp only [List.getElem?_toArray, List.getElem?_cons_succ, List.getElem?_cons_zero, Option.some.injEq] at ho; subst ho; go_simp; try with_reducible rfl)
      · (simp only [Act.put, List.setIfInBounds_toArray, List.set_cons_succ, List.set_cons_zero]; rfl)
      clear HS; intro HS
      refine hT_on (i := 9) (d := (some 36)) (v := ?_) (a' := ?_) (by kernel_rfl) (by kernel_rfl) (by kernel_rfl) (by kernel_rfl) (by kernel_rfl) (fun _ _ _ h => h) HS ?_ ?_ ?_
      rotate_left 2
      · (intro o ho w'; simp only [List.getElem?_toArray, List.getElem?_cons_succ, List.getElem?_cons_zero, Option.some.injEq] at ho; subst ho; go_simp; try with_reducible rfl)
      · (simp only [Act.put, List.setIfInBounds_toArray, List.set_cons_succ, List.set_cons_zero]; rfl)
      clear HS; intro HS
      refine hT_ld (i := 10) (m := 11) (C := C5) (d := (some 37)) (v := ?_) (a' := ?_) (by kernel_rfl) (by kernel_rfl) (by kernel_rfl) (by kernel_rfl) (by kernel_rfl) (by kernel_rfl) (by simp) (by kernel_rfl) (fun _ _ _ h => h) HS ?_ ?_ ?_
      rotate_left 2
      · (intro o ho w' hC; rw [HC5.out] at hC; simp only [List.getElem?_toArray, List.getElem?_cons_succ, List.getElem?_cons_zero, Option.some.injEq] at ho; subst ho; (try dsimp only at hC); go_simp; try with_reducible rfl)
      · (simp only [Act.put, List.setIfInBounds_toArray, List.set_cons_succ, List.set_cons_zero]; rfl)
      clear HS; intro HS
      refine hT_on (i := 12) (d := (some 39)) (v := ?_) (a' := ?_) (by kernel_rfl) (by kernel_rfl) (by kernel_rfl) (by kernel_rfl) (by kernel_rfl) (fun _ _ _ h => h) HS ?_ ?_ ?_
      rotate_left 2
      · (intro o ho w'; simp only [List.getElem?_toArray, List.getElem?_cons_succ, List.getElem?_cons_zero, Option.some.injEq] at ho; subst ho; go_simp; try with_reducible rfl)
      · (simp only [Act.put, List.setIfInBounds_toArray, List.set_cons_succ, List.set_cons_zero]; rfl)
      clear HS; intro HS
      refine hT_ld (i := 13) (m := 14) (C := C4) (d := (some 40)) (v := ?_) (a' := ?_) (by kernel_rfl) (by kernel_rfl) (by kernel_rfl) (by kernel_rfl) (by kernel_rfl) (by kernel_rfl) (by simp) (by kernel_rfl) (fun _ _ _ h => h) HS ?_ ?_ ?_
      rotate_left 2
      · (intro o ho w' hC; rw [HC4.out] at hC; simp only [List.getElem?_toArray, List.getElem?_cons_succ, List.getElem?_cons_zero, Option.some.injEq] at ho; subst ho; (try dsimp only at hC); go_simp; try with_reducible rfl)
      · (simp only [Act.put, List.setIfInBounds_toArray, List.set_cons_succ, List.set_cons_zero]; rfl)
      clear HS; intro HS
      refine hT_one (i := 11) (by kernel_rfl) (fun o ho K hK => ?_)
      simp only [List.getElem?_toArray, List.getElem?_cons_succ, List.getElem?_cons_zero, Option.some.injEq] at ho; subst ho
      go_simp
      go_at_call 70
      refine (HHI.out _ r1).mono ?_
      rintro en w5 ⟨rfl, hq⟩
      replace g1 := blk_kept1 hq g1
      replace r1 := (r1.below hq (Nat.le_refl _)).more hq.size
      replace hb1 := below_trans' hb1 hb1.size hq
      clear hq
      refine hK.out _ _ ?_ (fun HS' => ?_)
      · exact LIFT.out w5 g1 _
      clear hK K HS; have HS := HS'; clear HS'
      (try simp only [Act.put, List.setIfInBounds_toArray, List.set_cons_zero, List.set_cons_succ])
      refine hT_one (i := 14) (by kernel_rfl) (fun o ho K hK => ?_)
      simp only [List.getElem?_toArray, List.getElem?_cons_succ, List.getElem?_cons_zero, Option.some.injEq] at ho; subst ho
      go_simp
      refine hK.out _ _ ?_ (fun HS' => ?_)
      · exact LIFT.out w5 g1 _
      clear hK K HS; have HS := HS'; clear HS'
      (try simp only [Act.put, List.setIfInBounds_toArray, List.set_cons_zero, List.set_cons_succ])
      refine hT_on (i := 15) (d := (some 42)) (v := ?_) (a' := ?_) (by kernel_rfl) (by kernel_rfl) (by kernel_rfl) (by kernel_rfl) (by kernel_rfl) (fun _ _ _ h => h) HS ?_ ?_ ?_
      rotate_left 2
      · (intro o ho w'; simp only [List.getElem?_toArray, List.getElem?_cons_succ, List.getElem?_cons_zero, Option.some.injEq] at ho; subst ho; go_simp; try with_reducible rfl)
      · (simp only [Act.put, List.setIfInBounds_toArray, List.set_cons_succ, List.set_cons_zero]; rfl)
      clear HS; intro HS
      refine held_done (by kernel_rfl) ?_ _
      have hX : ¬ exL l c t adj e level = true := by rw [HXE.out, HLOe.out, HHIe.out]; simp; omega
      by_cases hlast : l.length = N
      · have hdI : (l.length : Int) = N := by omega
        go_wp2_with fail
        go_ret
        exact ⟨by first | rfl | (simp [hX, hlast]; done) | (simp; done), hb1⟩
      · have hdI : ¬ (l.length : Int) = N := by omega
        have hlt : l.length < N := by omega
        have hV := HVV.out hlt
        have hks := kS_bd hc ht HKD.out hV
        have HXX := Lib.hid hX
        have HLAST := Lib.hid hlast
        have HRC := Lib.hid (HREC.out hlt)
        have HV2 := Lib.hid hV
        have HKS := Lib.hid hks
        clear hV hks hX hlast r1 HS
        go_upto_region 13 with fail
        go_loopg [10, 11, 12, 13, 14, 15, 16] m (fun mm s10 s11 s12 s13 s14 s15 s16 wr => ∃ i : Nat, i ≤ m ∧ mm = m - i ∧ s10 = .int .i64 (kS V c t ks i) ∧ s11 = .int .i64 i ∧ Below w5.heap.size w5 wr)
        case atStart => exact ⟨0, by omega, by omega, rfl, rfl, Below.refl _ _⟩
        case round =>
          obtain ⟨i, hi, hmm, rfl, rfl, hbr⟩ := hrel
          have HM := Lib.hid hmm
          clear hmm
          have g7 := (hbr.block _ (lt_of_blk g1)).trans g1
          have hbw := below_trans' hb1 hb1.size hbr
          obtain ⟨y0, y1, y2, y3, y4, y5, y6⟩ := cells7 g7
          by_cases him : i < m
          · have hdi : (i : Int) < m := by omega
            have hic : (i : Int) < ck := by omega
            have hbl : bK < wr.heap.size := by have := hbw.size; omega
            have hKw := (HK.out.below hbw (Nat.le_refl _)).more hbw.size
            have x0 := rows_at hKw him (j := 0) rfl
            have x1 := rows_at hKw him (j := 1) rfl
            have x2 := rows_at hKw him (j := 2) rfl
            have x3 := rows_at hKw him (j := 3) rfl
            simp only [Nat.add_zero] at x0
            go_upto_region 16 with fail
            have gkb := heap_alloc_new wr (.cells #[.int .u8 (r0 i), .int .u8 (r1 i), .int .u8 (r2 i), .int .u8 (r3 i)] 102)
            have hq : Below wr.heap.size wr (wr.alloc (.cells #[.int .u8 (r0 i), .int .u8 (r1 i), .int .u8 (r2 i), .int .u8 (r3 i)] 102)) := (Below.refl _ _).alloc (Nat.le_refl _) _
            have g8 := blk_kept1 hq g7
            have hb6 := below_trans' hbw hbw.size hq
            have hb56 := below_trans' hbr hbr.size hq
            clear x0 x1 x2 x3 y0 y1 y2 y3 y4 y5 y6 hKw hbw hq g7 hbr hbl
            generalize wr.alloc (.cells #[.int .u8 (r0 i), .int .u8 (r1 i), .int .u8 (r2 i), .int .u8 (r3 i)] 102) = w6 at *
            generalize wr.heap.size = Gk at *
            obtain ⟨hr0, hr1, hr2, hr3, hkk⟩ := HKD.out i him
            have hks0 := HKS.out i hi
            have hks1 := HKS.out (i + 1) him
            have hkS1 : kS V c t ks (i + 1) = kS V c t ks i + c * (ks i).num * V (uV 1 (ks i).one (ks i).before) + t * (ks i).num * V (uV 2 (ks i).two (ks i).before) := rfl
            rw [hkk] at hkS1
            dsimp only at hkS1
            obtain ⟨nu, hnu⟩ : ∃ x, r0 i % 3 = x := ⟨_, rfl⟩
            obtain ⟨bb, hbb⟩ : ∃ x, r1 i % 3 = x := ⟨_, rfl⟩
            obtain ⟨va, hva⟩ : ∃ x, r2 i % 21 = x := ⟨_, rfl⟩
            obtain ⟨vb, hvb⟩ : ∃ x, r3 i % 21 = x := ⟨_, rfl⟩
            rw [hnu, hbb, hva, hvb] at hkS1
            have hnub : 0 ≤ nu ∧ nu ≤ 2 := by omega
            have hbbb : 0 ≤ bb ∧ bb ≤ 2 := by omega
            have hvab : 0 ≤ va ∧ va ≤ 20 := by omega
            have hvbb : 0 ≤ vb ∧ vb ≤ 20 := by omega
            have hL1 : Lv (uV 1 va bb) := ⟨.inl rfl, rfl, hvab.1, hvab.2, hbbb.1, hbbb.2⟩
            have hL2 : Lv (uV 2 vb bb) := ⟨.inr rfl, rfl, hvbb.1, hvbb.2, hbbb.1, hbbb.2⟩
            have hv1 := HV2.out _ hL1
            have hv2 := HV2.out _ hL2
            have hrc1 := Lib.hid (HRC.out _ hL1)
            have hrc2 := Lib.hid (HRC.out _ hL2)
            have HL1 := Lib.hid hL1
            have HL2 := Lib.hid hL2
            obtain ⟨V1, hV1⟩ : ∃ x, V (uV 1 va bb) = x := ⟨_, rfl⟩
            obtain ⟨V2, hV2⟩ : ∃ x, V (uV 2 vb bb) = x := ⟨_, rfl⟩
            rw [hV1] at hkS1 hv1 hrc1
            rw [hV2] at hkS1 hv2 hrc2
            obtain ⟨S0, hS0⟩ : ∃ x, kS V c t ks i = x := ⟨_, rfl⟩
            obtain ⟨S2, hS2⟩ : ∃ x, kS V c t ks (i + 1) = x := ⟨_, rfl⟩
            rw [hS0, hS2] at hkS1
            rw [hS2] at hks1
            rw [hS0] at hks0 ⊢
            have c1 : 0 ≤ c * (1 + nu) ∧ c * (1 + nu) ≤ 9 := ⟨Int.mul_nonneg (by omega) (by omega), Int.le_trans (Int.mul_le_mul hc.2 (show 1 + nu ≤ 3 by omega) (by omega) (by omega)) (by decide)⟩
            have c2 : 0 ≤ t * (1 + nu) ∧ t * (1 + nu) ≤ 9 := ⟨Int.mul_nonneg (by omega) (by omega), Int.le_trans (Int.mul_le_mul ht.2 (show 1 + nu ≤ 3 by omega) (by omega) (by omega)) (by decide)⟩
            have d1 : 0 ≤ c * (1 + nu) * V1 ∧ c * (1 + nu) * V1 ≤ 9 * 2176782336 := ⟨Int.mul_nonneg c1.1 hv1.1, Int.mul_le_mul c1.2 hv1.2 hv1.1 (by decide)⟩
            have d2 : 0 ≤ t * (1 + nu) * V2 ∧ t * (1 + nu) * V2 ≤ 9 * 2176782336 := ⟨Int.mul_nonneg c2.1 hv2.1, Int.mul_le_mul c2.2 hv2.2 hv2.1 (by decide)⟩
            have e1 : IntKind.i64.wrap (c * (1 + nu)) = c * (1 + nu) := IntWalk.i64_in _ (by omega)
            have e2 : IntKind.i64.wrap (t * (1 + nu)) = t * (1 + nu) := IntWalk.i64_in _ (by omega)
            have e3 : IntKind.i64.wrap (c * (1 + nu) * V1) = c * (1 + nu) * V1 := IntWalk.i64_in _ (by omega)
            have e4 : IntKind.i64.wrap (t * (1 + nu) * V2) = t * (1 + nu) * V2 := IntWalk.i64_in _ (by omega)
            have hi2 : (i : Int) * 39182082048 ≤ 78364164096 := by omega
            have e5 : IntKind.i64.wrap (S0 + c * (1 + nu) * V1) = S0 + c * (1 + nu) * V1 := IntWalk.i64_in _ (by omega)
            have e6 : IntKind.i64.wrap (S0 + c * (1 + nu) * V1 + t * (1 + nu) * V2) = S0 + c * (1 + nu) * V1 + t * (1 + nu) * V2 := IntWalk.i64_in _ (by omega)
            have HkS1 := Lib.hid hkS1
            have HS2 := Lib.hid hS2
            clear hkS1 hS2 hS0 hV1 hV2 hL1 hL2 hkk
            obtain ⟨H, hH0, hH1, hH2⟩ : ∃ H : Nat → Int, H 0 = S0 ∧ H 1 = S0 + c * (1 + nu) * V1 ∧ H 2 = S0 + c * (1 + nu) * V1 + t * (1 + nu) * V2 := ⟨fun a => if a = 0 then S0 else if a = 1 then S0 + c * (1 + nu) * V1 else S0 + c * (1 + nu) * V1 + t * (1 + nu) * V2, rfl, rfl, rfl⟩
            have HH0 := Lib.hid hH0
            have HH1 := Lib.hid hH1
            have HH2 := Lib.hid hH2
            clear hH0 hH1 hH2
            go_upto_region 17 with fail
            go_loopg [10, 13, 14, 15, 16] 2 (fun mm s10 s13 s14 s15 s16 wi => ∃ a : Nat, a ≤ 2 ∧ mm = 2 - a ∧ s10 = .int .i64 (H a) ∧ s13 = .int .i64 ((a : Int) + 1) ∧ Below w6.heap.size w6 wi)
            case atStart => exact ⟨0, by omega, by omega, by rw [HH0.out], rfl, Below.refl _ _⟩
            case round =>
              obtain ⟨a, ha, hma, rfl, rfl, hbi⟩ := hrel
              have HMA := Lib.hid hma
              clear hma
              have g9 := (hbi.block _ (lt_of_blk g8)).trans g8
              have k9 := (hbi.block _ (lt_of_blk gkb)).trans gkb
              have hb7 := below_trans' hb6 hb6.size hbi
              have hb57 := below_trans' hb56 hb56.size hbi
              have hbx := hbi
              obtain ⟨y0, y1, y2, y3, y4, y5, y6⟩ := cells7 g9
              have x0 := cell_of_block k9 0
              have x1 := cell_of_block k9 1
              have x2 := cell_of_block k9 2
              have x3 := cell_of_block k9 3
              simp only [List.getElem?_toArray, List.getElem?_cons_zero, List.getElem?_cons_succ] at x0 x1 x2 x3
              have ha3 : a = 0 ∨ a = 1 ∨ a = 2 := by omega
              rcases ha3 with rfl | rfl | rfl
              · rw [HH0.out]
                go_upto_region 19 with fail
                go_quiet (fail)
                go_upto_region 22 with fail
                clear x0 x1 x2 x3 y0 y1 y2 y3 y4 y5 y6
                have hqn := below_drewN (Below.refl wr.heap.size wr) nq
                replace g9 := blk_kept1 hqn g9
                replace k9 := blk_kept1 hqn k9
                replace hb7 := below_trans' hb7 hb7.size hqn
                replace hbx := below_trans' hbx hbx.size hqn
                clear hqn hb57 hbi
                generalize wr.drewN nq = wi at *
                have hRi := (HR.out.below hb7 (Nat.le_refl _)).more hb7.size
                have hle : ∀ z : Beh (RK wi.heap.size l (uV 1 va bb)) wi.drew, Below wi.heap.size wi z.w := fun z => Below.trans (Below.refl _ wi).drew z.h.1
                have hsz : ∀ z : Beh (RK wi.heap.size l (uV 1 va bb)) wi.drew, wi.heap.size ≤ z.w.heap.size := fun z => (hle z).size
                have zk : ∀ z : Beh (RK wi.heap.size l (uV 1 va bb)) wi.drew, z.w.heap[Gk]? = some (.cells #[.int .u8 (r0 i), .int .u8 (r1 i), .int .u8 (r2 i), .int .u8 (r3 i)] 102 (0, 0)) := fun z => ((hle z).block _ (lt_of_blk k9)).trans k9
                have q1 : ∀ z : Beh (RK wi.heap.size l (uV 1 va bb)) wi.drew, z.w.cell? ⟨Gk, 1, none⟩ = some (.int .u8 (r1 i)) := fun z => cell_of_block (zk z) 1
                have hRz : ∀ z : Beh (RK wi.heap.size l (uV 1 va bb)) wi.drew, RowsAt z.w z.w.heap.size 10 A l.length (fun i => (l.getD i default).cells) := fun z => (hRi.below (hle z) (Nat.le_refl _)).more (hsz z)
                refine wp_region_late (R := RK wi.heap.size l (uV 1 va bb)) 13 123 [(0, [], some (freshS wi.heap.size #[] 34 0)), (2, [95], some (P61 wi.heap.size l)), (11, [], some (freshS wi.heap.size (uV 1 va bb).cells.toArray 34 1)), (12, [97, 106], some (P64 wi.heap.size l (uV 1 va bb)))] (by kernel_rfl) (by kernel_rfl) (by kernel_rfl) rfl (RK.refl _ _ _) (fun _ _ _ => RK.trans _ _ _) ?_
                simp only [Late, List.take_succ_cons, List.drop_succ_cons, List.take_zero, List.drop_zero, Nat.reduceSub, Nat.reduceAdd, Nat.sub_zero]
                refine wpQuiet_nil ?_
                refine late_buildR (fun w => by kernel_rfl) (fun z => RK.of_le _ _ _ (hsz z) ((Below.refl _ _).alloc (Nat.le_refl _) _)) (fun v _ _ h => h.2.1 v) hsz (by simp only [Act.put, List.setIfInBounds_toArray, List.set_cons_succ, List.set_cons_zero]; rfl) ?_
                repeat (go_big_quiet_step (rfl))
                refine wpQuiet_nil ?_
                refine late_app1 (c2 := .slice A l.length cp) (fun v _ _ h => h.2.2.1 v) (fun _ => rfl) (fun z v95 h95 => empty_append _ l (uV 1 va bb) (hsz z) (by omega) h95 A cp (hRz z)) (by simp only [Act.put, List.setIfInBounds_toArray, List.set_cons_succ, List.set_cons_zero]; rfl) ?_
                repeat (go_big_quiet_step (rfl))
                refine wpQuiet_nil ?_
                refine late_buildR (fun w => by kernel_rfl) (fun z => RK.of_le _ _ _ (hsz z) ((Below.refl _ _).alloc (Nat.le_refl _) _)) (fun v _ _ h => h.2.2.2.1 v) hsz (by simp only [Act.put, List.setIfInBounds_toArray, List.set_cons_succ, List.set_cons_zero]; rfl) ?_
                refine wpQuiet_nil ?_
                refine late_app2 (by decide) (fun v _ _ h => h.2.2.2.2.1 v) (fun _ _ => rfl) (fun z v97 v106 h97 h106 => append_keeps _ l (uV 1 va bb) (hsz z) (by omega) h97 h106) (by simp only [Act.put, List.setIfInBounds_toArray, List.set_cons_succ, List.set_cons_zero]; rfl) ?_
                refine wpQuiet_nil ?_
                intro z
                simp only [allGens, Option.getD_some]
                rintro v95 _ v97 _ v106 _ v107 ⟨ho7, g7', cp7, rfl⟩
                simp only [Act.put, List.setIfInBounds_toArray, List.set_cons_succ, List.set_cons_zero]
                have hlz := hle z
                clear hle hsz zk hRz q1
                generalize z.w = w8 at *
                replace g9 := (hlz.block _ (lt_of_blk g9)).trans g9
                replace k9 := (hlz.block _ (lt_of_blk k9)).trans k9
                replace hb7 := below_trans' hb7 hb7.size hlz
                replace hbx := below_trans' hbx hbx.size hlz
                have hr8 := OwnSmp.rows (l := l ++ [(uV 1 va bb)]) ho7
                have hlen8 : (l ++ [(uV 1 va bb)]).length = l.length + 1 := by simp
                rw [hlen8] at hr8
                have hcp8 : l.length + 1 ≤ cp7 := by obtain ⟨_, _, hs, hc⟩ := Own.shape ho7; rw [hlen8] at hs hc; injection hs with _ _ hs; omega
                clear ho7 hlen8 hRi hlz
                go_upto_region 23 with fail
                have hle : ∀ z : Beh LeW w8.drew, Below w8.heap.size w8 z.w := fun z => Below.trans (Below.refl _ w8).drew z.h
                have zp : ∀ z : Beh LeW w8.drew, z.w.heap[w.heap.size]? = some (.cells #[.slice (some ⟨bK, oK, none⟩) m ck, .int .i64 T, .int .i64 c, .int .i64 t, .int .i64 e, .int .i64 level, .bool adj] 105 (0, 0)) := fun z => ((hle z).block _ (lt_of_blk g9)).trans g9
                have zk : ∀ z : Beh LeW w8.drew, z.w.heap[Gk]? = some (.cells #[.int .u8 (r0 i), .int .u8 (r1 i), .int .u8 (r2 i), .int .u8 (r3 i)] 102 (0, 0)) := fun z => ((hle z).block _ (lt_of_blk k9)).trans k9
                have p0 : ∀ z : Beh LeW w8.drew, z.w.cell? ⟨w.heap.size, 0, none⟩ = some (.slice (some ⟨bK, oK, none⟩) m ck) := fun z => (cells7 (zp z)).1
                have p1 : ∀ z : Beh LeW w8.drew, z.w.cell? ⟨w.heap.size, 1, none⟩ = some (.int .i64 T) := fun z => (cells7 (zp z)).2.1
                have p2 : ∀ z : Beh LeW w8.drew, z.w.cell? ⟨w.heap.size, 2, none⟩ = some (.int .i64 c) := fun z => (cells7 (zp z)).2.2.1
                have p3 : ∀ z : Beh LeW w8.drew, z.w.cell? ⟨w.heap.size, 3, none⟩ = some (.int .i64 t) := fun z => (cells7 (zp z)).2.2.2.1
                have p4 : ∀ z : Beh LeW w8.drew, z.w.cell? ⟨w.heap.size, 4, none⟩ = some (.int .i64 e) := fun z => (cells7 (zp z)).2.2.2.2.1
                have p5 : ∀ z : Beh LeW w8.drew, z.w.cell? ⟨w.heap.size, 5, none⟩ = some (.int .i64 level) := fun z => (cells7 (zp z)).2.2.2.2.2.1
                have p6 : ∀ z : Beh LeW w8.drew, z.w.cell? ⟨w.heap.size, 6, none⟩ = some (.bool adj) := fun z => (cells7 (zp z)).2.2.2.2.2.2
                have q0 : ∀ z : Beh LeW w8.drew, z.w.cell? ⟨Gk, 0, none⟩ = some (.int .u8 (r0 i)) := fun z => cell_of_block (zk z) 0
                have hrz : ∀ z : Beh LeW w8.drew, RowsAt z.w z.w.heap.size 10 (some ⟨g7', 0, none⟩) (l.length + 1) (fun i => ((l ++ [(uV 1 va bb)]).getD i default).cells) := fun z => (hr8.below (hle z) (Nat.le_refl _)).more (hle z).size
                have hkz : ∀ z : Beh LeW w8.drew, RowsAt z.w z.w.heap.size 4 (some ⟨bK, oK, none⟩) m (kC r0 r1 r2 r3) := fun z => (HK.out.below (below_trans' hb7 hb7.size (hle z)) (Nat.le_refl _)).more (below_trans' hb7 hb7.size (hle z)).size
                refine wp_region_late (R := LeW) 14 123 [(11, [], none)] (by kernel_rfl) (by kernel_rfl) (by kernel_rfl) rfl LeW.refl (fun _ _ _ => LeW.trans) ?_
                simp only [Late, List.take_succ_cons, List.drop_succ_cons, List.take_zero, List.drop_zero, Nat.sub_zero]
                repeat (go_big_quiet_step (fail))
                refine wpQuiet_nil ?_
                refine late_call Try.func76 (by kernel_rfl) (by kernel_rfl) (fun z => hrc1.out (some ⟨g7', 0, none⟩) cp7 z.w hcp8 (hrz z) (hkz z)) rfl (by simp only [Act.put, List.setIfInBounds_toArray, List.set_cons_succ, List.set_cons_zero]; rfl) ?_
                repeat (go_big_quiet_step (fail))
                refine wpQuiet_nil ?_
                intro z
                simp only [allGens]
                (try simp only [Act.put, List.setIfInBounds_toArray, List.set_cons_succ, List.set_cons_zero])
                replace hbx := below_trans' hbx hbx.size (hle z)
                clear hle zp zk p0 p1 p2 p3 p4 p5 p6 q0 hrz hkz
                generalize z.w = w9 at *
                go_wp2_with fail
                go_roundg (2 - 1)
                case measure => have := HMA.out; omega
                case rel => exact ⟨1, by omega, rfl, by rw [HH1.out], by first | rfl | go_num, hbx⟩
              · rw [HH1.out]
                go_upto_region 19 with fail
                go_quiet (fail)
                go_upto_region 21 with fail
                have hqm := below_drewN (Below.refl wr.heap.size wr) nq
                replace g9 := blk_kept1 hqm g9
                replace k9 := blk_kept1 hqm k9
                replace hb7 := below_trans' hb7 hb7.size hqm
                replace hbx := below_trans' hbx hbx.size hqm
                clear hqm hb57 hbi x0 x1 x2 x3 y0 y1 y2 y3 y4 y5 y6
                generalize wr.drewN nq = wr2 at *
                obtain ⟨y0, y1, y2, y3, y4, y5, y6⟩ := cells7 g9
                have x0 := cell_of_block k9 0
                have x1 := cell_of_block k9 1
                have x2 := cell_of_block k9 2
                have x3 := cell_of_block k9 3
                simp only [List.getElem?_toArray, List.getElem?_cons_zero, List.getElem?_cons_succ] at x0 x1 x2 x3
                go_quiet (fail)
                go_upto_region 22 with fail
                clear x0 x1 x2 x3 y0 y1 y2 y3 y4 y5 y6
                have hqn := below_drewN (Below.refl wr2.heap.size wr2) nq
                replace g9 := blk_kept1 hqn g9
                replace k9 := blk_kept1 hqn k9
                replace hb7 := below_trans' hb7 hb7.size hqn
                replace hbx := below_trans' hbx hbx.size hqn
                clear hqn
                generalize wr2.drewN nq = wi at *
                have hRi := (HR.out.below hb7 (Nat.le_refl _)).more hb7.size
                have hle : ∀ z : Beh (RK wi.heap.size l (uV 2 vb bb)) wi.drew, Below wi.heap.size wi z.w := fun z => Below.trans (Below.refl _ wi).drew z.h.1
                have hsz : ∀ z : Beh (RK wi.heap.size l (uV 2 vb bb)) wi.drew, wi.heap.size ≤ z.w.heap.size := fun z => (hle z).size
                have zk : ∀ z : Beh (RK wi.heap.size l (uV 2 vb bb)) wi.drew, z.w.heap[Gk]? = some (.cells #[.int .u8 (r0 i), .int .u8 (r1 i), .int .u8 (r2 i), .int .u8 (r3 i)] 102 (0, 0)) := fun z => ((hle z).block _ (lt_of_blk k9)).trans k9
                have q1 : ∀ z : Beh (RK wi.heap.size l (uV 2 vb bb)) wi.drew, z.w.cell? ⟨Gk, 1, none⟩ = some (.int .u8 (r1 i)) := fun z => cell_of_block (zk z) 1
                have hRz : ∀ z : Beh (RK wi.heap.size l (uV 2 vb bb)) wi.drew, RowsAt z.w z.w.heap.size 10 A l.length (fun i => (l.getD i default).cells) := fun z => (hRi.below (hle z) (Nat.le_refl _)).more (hsz z)
                refine wp_region_late (R := RK wi.heap.size l (uV 2 vb bb)) 13 123 [(0, [], some (freshS wi.heap.size #[] 34 0)), (2, [95], some (P61 wi.heap.size l)), (11, [], some (freshS wi.heap.size (uV 2 vb bb).cells.toArray 34 1)), (12, [97, 106], some (P64 wi.heap.size l (uV 2 vb bb)))] (by kernel_rfl) (by kernel_rfl) (by kernel_rfl) rfl (RK.refl _ _ _) (fun _ _ _ => RK.trans _ _ _) ?_
                simp only [Late, List.take_succ_cons, List.drop_succ_cons, List.take_zero, List.drop_zero, Nat.reduceSub, Nat.reduceAdd, Nat.sub_zero]
                refine wpQuiet_nil ?_
                refine late_buildR (fun w => by kernel_rfl) (fun z => RK.of_le _ _ _ (hsz z) ((Below.refl _ _).alloc (Nat.le_refl _) _)) (fun v _ _ h => h.2.1 v) hsz (by simp only [Act.put, List.setIfInBounds_toArray, List.set_cons_succ, List.set_cons_zero]; rfl) ?_
                repeat (go_big_quiet_step (rfl))
                refine wpQuiet_nil ?_
                refine late_app1 (c2 := .slice A l.length cp) (fun v _ _ h => h.2.2.1 v) (fun _ => rfl) (fun z v95 h95 => empty_append _ l (uV 2 vb bb) (hsz z) (by omega) h95 A cp (hRz z)) (by simp only [Act.put, List.setIfInBounds_toArray, List.set_cons_succ, List.set_cons_zero]; rfl) ?_
                repeat (go_big_quiet_step (rfl))
                refine wpQuiet_nil ?_
                refine late_buildR (fun w => by kernel_rfl) (fun z => RK.of_le _ _ _ (hsz z) ((Below.refl _ _).alloc (Nat.le_refl _) _)) (fun v _ _ h => h.2.2.2.1 v) hsz (by simp only [Act.put, List.setIfInBounds_toArray, List.set_cons_succ, List.set_cons_zero]; rfl) ?_
                refine wpQuiet_nil ?_
                refine late_app2 (by decide) (fun v _ _ h => h.2.2.2.2.1 v) (fun _ _ => rfl) (fun z v97 v106 h97 h106 => append_keeps _ l (uV 2 vb bb) (hsz z) (by omega) h97 h106) (by simp only [Act.put, List.setIfInBounds_toArray, List.set_cons_succ, List.set_cons_zero]; rfl) ?_
                refine wpQuiet_nil ?_
                intro z
                simp only [allGens, Option.getD_some]
                rintro v95 _ v97 _ v106 _ v107 ⟨ho7, g7', cp7, rfl⟩
                simp only [Act.put, List.setIfInBounds_toArray, List.set_cons_succ, List.set_cons_zero]
                have hlz := hle z
                clear hle hsz zk hRz q1
                generalize z.w = w8 at *
                replace g9 := (hlz.block _ (lt_of_blk g9)).trans g9
                replace k9 := (hlz.block _ (lt_of_blk k9)).trans k9
                replace hb7 := below_trans' hb7 hb7.size hlz
                replace hbx := below_trans' hbx hbx.size hlz
                have hr8 := OwnSmp.rows (l := l ++ [(uV 2 vb bb)]) ho7
                have hlen8 : (l ++ [(uV 2 vb bb)]).length = l.length + 1 := by simp
                rw [hlen8] at hr8
                have hcp8 : l.length + 1 ≤ cp7 := by obtain ⟨_, _, hs, hc⟩ := Own.shape ho7; rw [hlen8] at hs hc; injection hs with _ _ hs; omega
                clear ho7 hlen8 hRi hlz
                go_upto_region 23 with fail
                have hle : ∀ z : Beh LeW w8.drew, Below w8.heap.size w8 z.w := fun z => Below.trans (Below.refl _ w8).drew z.h
                have zp : ∀ z : Beh LeW w8.drew, z.w.heap[w.heap.size]? = some (.cells #[.slice (some ⟨bK, oK, none⟩) m ck, .int .i64 T, .int .i64 c, .int .i64 t, .int .i64 e, .int .i64 level, .bool adj] 105 (0, 0)) := fun z => ((hle z).block _ (lt_of_blk g9)).trans g9
                have zk : ∀ z : Beh LeW w8.drew, z.w.heap[Gk]? = some (.cells #[.int .u8 (r0 i), .int .u8 (r1 i), .int .u8 (r2 i), .int .u8 (r3 i)] 102 (0, 0)) := fun z => ((hle z).block _ (lt_of_blk k9)).trans k9
                have p0 : ∀ z : Beh LeW w8.drew, z.w.cell? ⟨w.heap.size, 0, none⟩ = some (.slice (some ⟨bK, oK, none⟩) m ck) := fun z => (cells7 (zp z)).1
                have p1 : ∀ z : Beh LeW w8.drew, z.w.cell? ⟨w.heap.size, 1, none⟩ = some (.int .i64 T) := fun z => (cells7 (zp z)).2.1
                have p2 : ∀ z : Beh LeW w8.drew, z.w.cell? ⟨w.heap.size, 2, none⟩ = some (.int .i64 c) := fun z => (cells7 (zp z)).2.2.1
                have p3 : ∀ z : Beh LeW w8.drew, z.w.cell? ⟨w.heap.size, 3, none⟩ = some (.int .i64 t) := fun z => (cells7 (zp z)).2.2.2.1
                have p4 : ∀ z : Beh LeW w8.drew, z.w.cell? ⟨w.heap.size, 4, none⟩ = some (.int .i64 e) := fun z => (cells7 (zp z)).2.2.2.2.1
                have p5 : ∀ z : Beh LeW w8.drew, z.w.cell? ⟨w.heap.size, 5, none⟩ = some (.int .i64 level) := fun z => (cells7 (zp z)).2.2.2.2.2.1
                have p6 : ∀ z : Beh LeW w8.drew, z.w.cell? ⟨w.heap.size, 6, none⟩ = some (.bool adj) := fun z => (cells7 (zp z)).2.2.2.2.2.2
                have q0 : ∀ z : Beh LeW w8.drew, z.w.cell? ⟨Gk, 0, none⟩ = some (.int .u8 (r0 i)) := fun z => cell_of_block (zk z) 0
                have hrz : ∀ z : Beh LeW w8.drew, RowsAt z.w z.w.heap.size 10 (some ⟨g7', 0, none⟩) (l.length + 1) (fun i => ((l ++ [(uV 2 vb bb)]).getD i default).cells) := fun z => (hr8.below (hle z) (Nat.le_refl _)).more (hle z).size
                have hkz : ∀ z : Beh LeW w8.drew, RowsAt z.w z.w.heap.size 4 (some ⟨bK, oK, none⟩) m (kC r0 r1 r2 r3) := fun z => (HK.out.below (below_trans' hb7 hb7.size (hle z)) (Nat.le_refl _)).more (below_trans' hb7 hb7.size (hle z)).size
                refine wp_region_late (R := LeW) 14 123 [(11, [], none)] (by kernel_rfl) (by kernel_rfl) (by kernel_rfl) rfl LeW.refl (fun _ _ _ => LeW.trans) ?_
                simp only [Late, List.take_succ_cons, List.drop_succ_cons, List.take_zero, List.drop_zero, Nat.sub_zero]
                repeat (go_big_quiet_step (fail))
                refine wpQuiet_nil ?_
                refine late_call Try.func76 (by kernel_rfl) (by kernel_rfl) (fun z => hrc2.out (some ⟨g7', 0, none⟩) cp7 z.w hcp8 (hrz z) (hkz z)) rfl (by simp only [Act.put, List.setIfInBounds_toArray, List.set_cons_succ, List.set_cons_zero]; rfl) ?_
                repeat (go_big_quiet_step (fail))
                refine wpQuiet_nil ?_
                intro z
                simp only [allGens]
                (try simp only [Act.put, List.setIfInBounds_toArray, List.set_cons_succ, List.set_cons_zero])
                replace hbx := below_trans' hbx hbx.size (hle z)
                clear hle zp zk p0 p1 p2 p3 p4 p5 p6 q0 hrz hkz
                generalize z.w = w9 at *
                go_wp2_with fail
                go_roundg (2 - 2)
                case measure => have := HMA.out; omega
                case rel => exact ⟨2, by omega, rfl, by rw [HH2.out], by first | rfl | go_num, hbx⟩
              · rw [HH2.out]
                clear x0 x1 x2 x3 y0 y1 y2 y3 y4 y5 y6
                go_wp2_with fail
                go_roundg (m - (i + 1))
                case measure => have := HM.out; omega
                case rel => exact ⟨i + 1, by omega, rfl, by rw [HS2.out, HkS1.out], by go_num, hb57⟩
          · obtain rfl : i = m := by omega
            have hdi : ¬ (i : Int) < i := by omega
            go_wp2_with fail
            go_ret
            exact ⟨by first | rfl | (rw [if_neg HXX.out, if_neg HLAST.out]; done), hbw⟩

theorem kok_of {ks : Nat → Kd} {r0 r1 r2 r3 : Nat → Int} {m : Nat} (h : ∀ i, i < m → KdAt ks r0 r1 r2 r3 i) : KOk ks m := fun i hi => by
  obtain ⟨_, _, _, _, e⟩ := h i hi
  rw [e]
  dsimp only
  omega

theorem miss76 (K : Option Addr) (m ck : Nat) (ks : Nat → Kd) (c t e level : Int) (adj : Bool) (N : Nat) (hc : 1 ≤ c ∧ c ≤ 3) (ht : 1 ≤ t ∧ t ≤ 3) (he : -1000 ≤ e ∧ e ≤ 1000) (h1 : 1 ≤ level) (h2 : level ≤ 999) (hN : N ≤ 6)
    (r0 r1 r2 r3 : Nat → Int) (hm1 : 1 ≤ m) (hm2 : m ≤ 2) (hmc : m ≤ ck) (hkd : ∀ i, i < m → KdAt ks r0 r1 r2 r3 i) :
    ∀ (d : Nat) (l : List Smp) (A : Option Addr) (cp : Nat) (w : World), l.length + d = N → (∀ s ∈ l, Lv s) → l.length ≤ cp → RowsAt w w.heap.size 4 K m (kC r0 r1 r2 r3) → RowsAt w w.heap.size 10 A l.length (fun i => (l.getD i default).cells) →
      Calls Try.prog 76 #[.agg #[.slice K m ck, .int .i64 (kTot ks m), .int .i64 c, .int .i64 t, .int .i64 e, .int .i64 level, .bool adj], .slice A l.length cp, .int .i64 N] w fun en w' => en = .returned (.int .i64 (missN c t ks m e level adj d l)) ∧ Below w.heap.size w w' := by
  have hk := kok_of hkd
  have hTb : 0 ≤ kTot ks m ∧ kTot ks m ≤ 6 := by have := kTot_bd hk; omega
  have hPb : 0 ≤ kTot ks m * (c + t) ∧ kTot ks m * (c + t) ≤ 36 := ⟨Int.mul_nonneg hTb.1 (by omega), Int.le_trans (Int.mul_le_mul hTb.2 (show c + t ≤ 6 by omega) (by omega) (by omega)) (by decide)⟩
  intro d
  induction d with
  | zero =>
    intro l A cp w hl hls hcp hK hR
    refine (miss_level K m ck ks c t e level adj N l A cp w hc ht he h1 h2 hN (by omega) hls hcp hTb r0 r1 r2 r3 (fun _ => 0) hm1 hm2 hmc hkd hK (fun h => by omega) (fun h => by omega) hR).mono fun en w' ⟨h, hb⟩ => ⟨?_, hb⟩
    rw [h, show N - l.length = 0 by omega, if_pos (show l.length = N by omega)]
    rfl
  | succ d ih =>
    intro l A cp w hl hls hcp hK hR
    refine (miss_level K m ck ks c t e level adj N l A cp w hc ht he h1 h2 hN (by omega) hls hcp hTb r0 r1 r2 r3 (fun x => missN c t ks m e level adj d (l ++ [x])) hm1 hm2 hmc hkd hK (fun _ x _ => ?_) (fun _ x hx A' cp' w' hcp' hr' hk' => ?_) hR).mono fun en w' ⟨h, hb⟩ => ⟨?_, hb⟩
    · have a := missN_bd (adj := adj) (level := level) (e := e) hc ht hk d (l ++ [x])
      have b := powI_le6 hPb.1 hPb.2 (j := d) (by omega)
      omega
    · have hlen : (l ++ [x]).length = l.length + 1 := by simp
      have h3 := ih (l ++ [x]) A' cp' w' (by rw [hlen]; omega) (Lv.snoc hls hx) (by rw [hlen]; exact hcp') hk' (by rw [hlen]; exact hr')
      rw [hlen] at h3
      exact h3
    · rw [h, show N - l.length = d + 1 by omega, if_neg (show ¬ l.length = N by omega)]
      rfl

def kKd : List CK := [.int .u8, .int .u8, .int .u8, .int .u8]
theorem kKd_of {cs : List Value} (h : CellsOk kKd cs) : ∃ x y z u : Int, cs = [.int .u8 x, .int .u8 y, .int .u8 z, .int .u8 u] ∧ (0 ≤ x ∧ x ≤ 255) ∧ (0 ≤ y ∧ y ≤ 255) ∧ (0 ≤ z ∧ z ≤ 255) ∧ (0 ≤ u ∧ u ≤ 255) := by
  unfold kKd at h
  rcases cs with _ | ⟨a, _ | ⟨b, _ | ⟨c, _ | ⟨d, _ | ⟨e, l⟩⟩⟩⟩⟩ <;> simp only [CellsOk, and_false] at h
  obtain ⟨⟨x, rfl, hx⟩, ⟨y, rfl, hy⟩, ⟨z, rfl, hz⟩, ⟨u, rfl, hu⟩, _⟩ := h
  exact ⟨x, y, z, u, rfl, bounds_u8 hx, bounds_u8 hy, bounds_u8 hz, bounds_u8 hu⟩

def kF (r0 r1 r2 r3 : Nat → Int) : Nat → Kd := fun i => ⟨1 + r0 i % 3, r1 i % 3, r2 i % 21, r3 i % 21⟩
theorem rows_k2 {w : World} {g : Nat} {r0 r1 r2 r3 : Nat → Int} (h : w.heap[g]? = some (.cells #[.int .u8 (r0 0), .int .u8 (r1 0), .int .u8 (r2 0), .int .u8 (r3 0), .int .u8 (r0 1), .int .u8 (r1 1), .int .u8 (r2 1), .int .u8 (r3 1)] 102 (0, 0))) (oK : Nat) (hoK : 0 = oK) (m : Nat) (hm : m ≤ 2) :
    RowsAt w w.heap.size 4 (some ⟨g, oK, none⟩) m (kC r0 r1 r2 r3) := fun _ => by
  subst hoK
  refine ⟨g, 0, rfl, lt_of_blk h, fun i hi j u hu => ?_⟩
  have hj : j < 4 := (List.getElem?_eq_some_iff.1 hu).1
  rw [cell_of_block h]
  rcases (show i = 0 ∨ i = 1 by omega) with rfl | rfl <;> rcases (show j = 0 ∨ j = 1 ∨ j = 2 ∨ j = 3 by omega) with rfl | rfl | rfl | rfl <;> exact hu
theorem kD_bd {ks : Nat → Kd} {r0 r1 r2 r3 : Nat → Int} {m : Nat} (h : ∀ i, i < m → KdAt ks r0 r1 r2 r3 i) : ∀ i, i ≤ m → (i : Int) ≤ kTot ks i ∧ kTot ks i ≤ 3 * i ∧ -(20 * kTot ks i) ≤ kDif ks i ∧ kDif ks i ≤ 20 * kTot ks i
  | 0, _ => by simp [kTot, kDif]
  | i + 1, hi => by
    obtain ⟨a1, a2, a3, a4⟩ := kD_bd h i (by omega)
    obtain ⟨b0, b1, b2, b3, e⟩ := h i (by omega)
    simp only [kTot, kDif]
    rw [e]
    dsimp only
    generalize hd : r3 i % 21 - r2 i % 21 = d
    have hd2 : -20 ≤ d ∧ d ≤ 20 := by omega
    have c1 := Int.mul_le_mul_of_nonneg_left hd2.2 (show 0 ≤ 1 + r0 i % 3 by omega)
    have c2 := Int.mul_le_mul_of_nonneg_left hd2.1 (show 0 ≤ 1 + r0 i % 3 by omega)
    omega

set_option maxRecDepth 100000 in
set_option maxHeartbeats 8000000 in
theorem sequenceLevel29 (c0 c1 : List Value) (a2 : Bool) (a3 a4 a5 : Int) (a6 : Bool) (w : World) (w0 : CellsOk kKd c0) (w1 : CellsOk kKd c1) (w3 : (Lit.int .u8 a3).wf = true) (w4 : (Lit.int .u8 a4).wf = true) (w5 : (Lit.int .u8 a5).wf = true) :
    Calls Try.prog 29 #[.agg c0.toArray, .agg c1.toArray, .bool a2, .int .u8 a3, .int .u8 a4, .int .u8 a5, .bool a6] w fun en w' => en = .returned (.bool true) ∧ Below w.heap.size w w' := by
  obtain ⟨u0, u1, u2, u3, rfl, hu0, hu1, hu2, hu3⟩ := kKd_of w0
  obtain ⟨v0, v1, v2, v3, rfl, hv0, hv1, hv2, hv3⟩ := kKd_of w1
  have b3 := bounds_u8 w3
  have b4 := bounds_u8 w4
  have b5 := bounds_u8 w5
  clear w0 w1 w3 w4 w5
  obtain ⟨c, hc⟩ : ∃ c, 1 + a3 % 3 = c := ⟨_, rfl⟩
  obtain ⟨t, ht⟩ : ∃ t, 1 + a4 % 3 = t := ⟨_, rfl⟩
  obtain ⟨lv, hlv⟩ : ∃ x, 400 + a5 * 2 = x := ⟨_, rfl⟩
  have hcb : 1 ≤ c ∧ c ≤ 3 := by omega
  have htb : 1 ≤ t ∧ t ≤ 3 := by omega
  have hlb : 1 ≤ lv ∧ lv ≤ 999 := by omega
  obtain ⟨r0, R00, R01⟩ : ∃ r : Nat → Int, r 0 = u0 ∧ r 1 = v0 := ⟨fun i => if i = 0 then u0 else v0, rfl, rfl⟩
  obtain ⟨r1, R10, R11⟩ : ∃ r : Nat → Int, r 0 = u1 ∧ r 1 = v1 := ⟨fun i => if i = 0 then u1 else v1, rfl, rfl⟩
  obtain ⟨r2, R20, R21⟩ : ∃ r : Nat → Int, r 0 = u2 ∧ r 1 = v2 := ⟨fun i => if i = 0 then u2 else v2, rfl, rfl⟩
  obtain ⟨r3, R30, R31⟩ : ∃ r : Nat → Int, r 0 = u3 ∧ r 1 = v3 := ⟨fun i => if i = 0 then u3 else v3, rfl, rfl⟩
  subst R00 R01 R10 R11 R20 R21 R30 R31
  have hkd : ∀ i, i < 2 → KdAt (kF r0 r1 r2 r3) r0 r1 r2 r3 i := fun i hi => by
    rcases (show i = 0 ∨ i = 1 by omega) with rfl | rfl
    · exact ⟨hu0, hu1, hu2, hu3, rfl⟩
    · exact ⟨hv0, hv1, hv2, hv3, rfl⟩
  have HKD := Lib.hid hkd
  clear hkd hu0 hu1 hu2 hu3 hv0 hv1 hv2 hv3
  go_enter Try.func29, Try.ntmps29
  go_wp2_with fail
  have gx : ((w.alloc (.cells #[.int .u8 (r0 0), .int .u8 (r1 0), .int .u8 (r2 0), .int .u8 (r3 0)] 102)).alloc (.cells #[.int .u8 (r0 1), .int .u8 (r1 1), .int .u8 (r2 1), .int .u8 (r3 1)] 102)).heap[w.heap.size]? = some (.cells #[.int .u8 (r0 0), .int .u8 (r1 0), .int .u8 (r2 0), .int .u8 (r3 0)] 102 (0, 0)) := by
    rw [Below.heap_alloc _ _ _ (by simp)]; exact heap_alloc_new w _
  have gy : ((w.alloc (.cells #[.int .u8 (r0 0), .int .u8 (r1 0), .int .u8 (r2 0), .int .u8 (r3 0)] 102)).alloc (.cells #[.int .u8 (r0 1), .int .u8 (r1 1), .int .u8 (r2 1), .int .u8 (r3 1)] 102)).heap[w.heap.size + 1]? = some (.cells #[.int .u8 (r0 1), .int .u8 (r1 1), .int .u8 (r2 1), .int .u8 (r3 1)] 102 (0, 0)) := by
    have h := heap_alloc_new (w.alloc (.cells #[.int .u8 (r0 0), .int .u8 (r1 0), .int .u8 (r2 0), .int .u8 (r3 0)] 102)) (.cells #[.int .u8 (r0 1), .int .u8 (r1 1), .int .u8 (r2 1), .int .u8 (r3 1)] 102)
    rw [show (w.alloc (.cells #[.int .u8 (r0 0), .int .u8 (r1 0), .int .u8 (r2 0), .int .u8 (r3 0)] 102)).heap.size = w.heap.size + 1 by simp] at h
    exact h
  have hb : Below w.heap.size w ((w.alloc (.cells #[.int .u8 (r0 0), .int .u8 (r1 0), .int .u8 (r2 0), .int .u8 (r3 0)] 102)).alloc (.cells #[.int .u8 (r0 1), .int .u8 (r1 1), .int .u8 (r2 1), .int .u8 (r3 1)] 102)) := ((Below.refl _ _).alloc (Nat.le_refl _) _).alloc (by simp) _
  generalize ((w.alloc (.cells #[.int .u8 (r0 0), .int .u8 (r1 0), .int .u8 (r2 0), .int .u8 (r3 0)] 102)).alloc (.cells #[.int .u8 (r0 1), .int .u8 (r1 1), .int .u8 (r2 1), .int .u8 (r3 1)] 102)) = w1 at *
  refine (awake67 w1).mono ?_
  rintro en w2 ⟨rfl, hq⟩
  replace gx := blk_kept1 hq gx
  replace gy := blk_kept1 hq gy
  replace hb := below_trans' hb hb.size hq
  clear hq
  have x0 := cell_of_block gx 0
  have x1 := cell_of_block gx 1
  have x2 := cell_of_block gx 2
  have x3 := cell_of_block gx 3
  have y0 := cell_of_block gy 0
  have y1 := cell_of_block gy 1
  have y2 := cell_of_block gy 2
  have y3 := cell_of_block gy 3
  simp only [List.getElem?_toArray, List.getElem?_cons_zero, List.getElem?_cons_succ] at x0 x1 x2 x3 y0 y1 y2 y3
  go_upto_region 4 with fail
  clear x0 x1 x2 x3 y0 y1 y2 y3 gx gy
  have hq : Below w2.heap.size w2 ((w2.alloc (.cells #[.int .u8 (r0 0), .int .u8 (r1 0), .int .u8 (r2 0), .int .u8 (r3 0), .int .u8 (r0 1), .int .u8 (r1 1), .int .u8 (r2 1), .int .u8 (r3 1)] 102)).alloc (.cells #[.slice (some ⟨w2.heap.size, 0, none⟩) 2 2, .int .i64 0, .int .i64 c, .int .i64 t, .int .i64 0, .int .i64 lv, .bool a6] 105)) := ((Below.refl _ _).alloc (Nat.le_refl _) _).alloc (by simp) _
  have gk : ((w2.alloc (.cells #[.int .u8 (r0 0), .int .u8 (r1 0), .int .u8 (r2 0), .int .u8 (r3 0), .int .u8 (r0 1), .int .u8 (r1 1), .int .u8 (r2 1), .int .u8 (r3 1)] 102)).alloc (.cells #[.slice (some ⟨w2.heap.size, 0, none⟩) 2 2, .int .i64 0, .int .i64 c, .int .i64 t, .int .i64 0, .int .i64 lv, .bool a6] 105)).heap[w2.heap.size]? = some (.cells #[.int .u8 (r0 0), .int .u8 (r1 0), .int .u8 (r2 0), .int .u8 (r3 0), .int .u8 (r0 1), .int .u8 (r1 1), .int .u8 (r2 1), .int .u8 (r3 1)] 102 (0, 0)) := by
    rw [Below.heap_alloc _ _ _ (by simp)]; exact heap_alloc_new w2 _
  have gp : ((w2.alloc (.cells #[.int .u8 (r0 0), .int .u8 (r1 0), .int .u8 (r2 0), .int .u8 (r3 0), .int .u8 (r0 1), .int .u8 (r1 1), .int .u8 (r2 1), .int .u8 (r3 1)] 102)).alloc (.cells #[.slice (some ⟨w2.heap.size, 0, none⟩) 2 2, .int .i64 0, .int .i64 c, .int .i64 t, .int .i64 0, .int .i64 lv, .bool a6] 105)).heap[w2.heap.size + 1]? = some (.cells #[.slice (some ⟨w2.heap.size, 0, none⟩) 2 2, .int .i64 0, .int .i64 c, .int .i64 t, .int .i64 0, .int .i64 lv, .bool a6] 105 (0, 0)) := by
    have h := heap_alloc_new (w2.alloc (.cells #[.int .u8 (r0 0), .int .u8 (r1 0), .int .u8 (r2 0), .int .u8 (r3 0), .int .u8 (r0 1), .int .u8 (r1 1), .int .u8 (r2 1), .int .u8 (r3 1)] 102)) (.cells #[.slice (some ⟨w2.heap.size, 0, none⟩) 2 2, .int .i64 0, .int .i64 c, .int .i64 t, .int .i64 0, .int .i64 lv, .bool a6] 105)
    rw [show (w2.alloc (.cells #[.int .u8 (r0 0), .int .u8 (r1 0), .int .u8 (r2 0), .int .u8 (r3 0), .int .u8 (r0 1), .int .u8 (r1 1), .int .u8 (r2 1), .int .u8 (r3 1)] 102)).heap.size = w2.heap.size + 1 by simp] at h
    exact h
  have hw2 := hb.size
  replace hb := below_trans' hb hb.size hq
  generalize (w2.alloc (.cells #[.int .u8 (r0 0), .int .u8 (r1 0), .int .u8 (r2 0), .int .u8 (r3 0), .int .u8 (r0 1), .int .u8 (r1 1), .int .u8 (r2 1), .int .u8 (r3 1)] 102)).alloc (.cells #[.slice (some ⟨w2.heap.size, 0, none⟩) 2 2, .int .i64 0, .int .i64 c, .int .i64 t, .int .i64 0, .int .i64 lv, .bool a6] 105) = w3 at *
  clear hq
  generalize hGk : w2.heap.size = Gk at *
  generalize hGp : Gk + 1 = Gp at *
  have hne : Gk ≠ Gp := by omega
  have hgw : w.heap.size ≤ Gp := by omega
  have hgk : w.heap.size ≤ Gk := by omega
  clear hGk hGp hw2
  have HNE := Lib.hid hne
  have HC := Lib.hid hc
  have HT := Lib.hid ht
  have HLV := Lib.hid hlv
  clear hne hc ht hlv b3 b4 b5
  cases a2
  · have gp2 := gp
    have gk2 := gk
    have hb2 := hb
    clear gp gk hb
    go_upto_region 7 with fail
    generalize w3 = w4 at *
    obtain ⟨oK, hoK⟩ : ∃ o, (0 : Nat) = o := ⟨_, rfl⟩
    replace gp2 : w4.heap[Gp]? = some (.cells #[.slice (some ⟨Gk, oK, none⟩) 2 2, .int .i64 0, .int .i64 c, .int .i64 t, .int .i64 0, .int .i64 lv, .bool a6] 105 (0, 0)) := by rw [← hoK]; exact gp2
    have HOK := Lib.hid hoK
    clear hoK
    obtain ⟨ks, hks⟩ : ∃ ks, kF r0 r1 r2 r3 = ks := ⟨_, rfl⟩
    rw [hks] at HKD
    have hbd := kD_bd HKD.out
    have HBD := Lib.hid hbd
    have HKS := Lib.hid hks
    clear hbd hks
    go_upto_region 9 with fail
    go_loopg [17, 18, 19] 2 (fun mm s17 s18 s19 wr => ∃ j : Nat, j ≤ 2 ∧ mm = 2 - j ∧ s17 = .int .i64 (kDif ks j) ∧ s18 = .int .i64 j ∧ wr.heap[Gk]? = some (.cells #[.int .u8 (r0 0), .int .u8 (r1 0), .int .u8 (r2 0), .int .u8 (r3 0), .int .u8 (r0 1), .int .u8 (r1 1), .int .u8 (r2 1), .int .u8 (r3 1)] 102 (0, 0)) ∧
      wr.heap[Gp]? = some (.cells #[.slice (some ⟨Gk, oK, none⟩) 2 2, .int .i64 (kTot ks j), .int .i64 c, .int .i64 t, .int .i64 0, .int .i64 lv, .bool a6] 105 (0, 0)) ∧ Below w.heap.size w wr)
    case atStart => exact ⟨0, by omega, by omega, rfl, rfl, gk2, gp2, hb2⟩
    case round =>
      obtain ⟨j, hj, hmj, rfl, rfl, gk3, gp3, hb3⟩ := hrel
      have HMJ := Lib.hid hmj
      clear hmj gk2 gp2 hb2
      have hbj := HBD.out j (by omega)
      obtain ⟨y0, y1, y2, y3, y4, y5, y6⟩ := cells7 gp3
      by_cases hjm : j < 2
      · have hdi : (j : Int) < 2 := by omega
        have hrow := rows_k2 gk3 oK HOK.out 2 (by omega)
        have x0 := rows_at hrow hjm (j := 0) rfl
        have x1 := rows_at hrow hjm (j := 1) rfl
        have x2 := rows_at hrow hjm (j := 2) rfl
        have x3 := rows_at hrow hjm (j := 3) rfl
        simp only [Nat.add_zero] at x0
        have hlk := lt_of_blk gk3
        have hlp := lt_of_blk gp3
        have hj2 : (j : Int) < 2 := by omega
        go_upto_region 12 with fail
        have hq : Below wr.heap.size wr (wr.alloc (.cells #[.int .u8 (r0 j), .int .u8 (r1 j), .int .u8 (r2 j), .int .u8 (r3 j)] 102)) := (Below.refl _ _).alloc (Nat.le_refl _) _
        have gq := heap_alloc_new wr (.cells #[.int .u8 (r0 j), .int .u8 (r1 j), .int .u8 (r2 j), .int .u8 (r3 j)] 102)
        replace gk3 := blk_kept1 hq gk3
        replace gp3 := blk_kept1 hq gp3
        replace hb3 := below_trans' hb3 hb3.size hq
        clear x0 x1 x2 x3 y0 y1 y2 y3 y4 y5 y6 hrow hlk hq
        generalize wr.alloc (.cells #[.int .u8 (r0 j), .int .u8 (r1 j), .int .u8 (r2 j), .int .u8 (r3 j)] 102) = w5 at *
        have hneq : wr.heap.size ≠ Gp := by omega
        have HNQ := Lib.hid hneq
        clear hneq hlp
        generalize wr.heap.size = Gq at *
        have gq2 : ∀ u, (w5.setCell ⟨Gp, 1, none⟩ u).heap[Gq]? = some (.cells #[.int .u8 (r0 j), .int .u8 (r1 j), .int .u8 (r2 j), .int .u8 (r3 j)] 102 (0, 0)) := fun u => blk_other gq HNQ.out 1 u
        obtain ⟨y0, y1, y2, y3, y4, y5, y6⟩ := cells7 gp3
        have f1 := free_of_block gp3 1
        have x0 := cell_of_block gq 0
        simp only [List.getElem?_toArray, List.getElem?_cons_zero] at x0
        obtain ⟨hr0, hr1, hr2, hr3, hkk⟩ := HKD.out j (by omega)
        have e1 : kTot ks (j + 1) = kTot ks j + (ks j).num := rfl
        have e2 : kDif ks (j + 1) = kDif ks j + (ks j).num * ((ks j).two - (ks j).one) := rfl
        rw [hkk] at e1 e2
        dsimp only at e1 e2
        obtain ⟨nu, hnu⟩ : ∃ x, r0 j % 3 = x := ⟨_, rfl⟩
        obtain ⟨va, hva⟩ : ∃ x, r2 j % 21 = x := ⟨_, rfl⟩
        obtain ⟨vb, hvb⟩ : ∃ x, r3 j % 21 = x := ⟨_, rfl⟩
        rw [hnu] at e1 e2
        rw [hva, hvb] at e2
        have hnub : 0 ≤ nu ∧ nu ≤ 2 := by omega
        have hvab : 0 ≤ va ∧ va ≤ 20 := by omega
        have hvbb : 0 ≤ vb ∧ vb ≤ 20 := by omega
        have c1 := Int.mul_le_mul_of_nonneg_left (show vb - va ≤ 20 by omega) (show 0 ≤ 1 + nu by omega)
        have c2 := Int.mul_le_mul_of_nonneg_left (show -20 ≤ vb - va by omega) (show 0 ≤ 1 + nu by omega)
        have E1 := Lib.hid e1
        have E2 := Lib.hid e2
        clear e1 e2 hkk
        obtain ⟨T0, hT0⟩ : ∃ x, kTot ks j = x := ⟨_, rfl⟩
        obtain ⟨D0, hD0⟩ : ∃ x, kDif ks j = x := ⟨_, rfl⟩
        rw [hT0] at E1 hbj y1 gp3
        rw [hD0] at E2 hbj ⊢
        have n1 : IntKind.i64.wrap ((1 + nu) * (vb - va)) = (1 + nu) * (vb - va) := IntWalk.i64_in _ (by omega)
        have n2 : IntKind.i64.wrap (D0 + (1 + nu) * (vb - va)) = D0 + (1 + nu) * (vb - va) := IntWalk.i64_in _ (by omega)
        have n3 : IntKind.i64.wrap (T0 + (1 + nu)) = T0 + (1 + nu) := IntWalk.i64_in _ (by omega)
        clear hT0 hD0
        go_upto_region 13 with fail
        have x0 := cell_of_block (gq2 (.int .i64 (T0 + (1 + nu)))) 0
        have x2 := cell_of_block (gq2 (.int .i64 (T0 + (1 + nu)))) 2
        have x3 := cell_of_block (gq2 (.int .i64 (T0 + (1 + nu)))) 3
        simp only [List.getElem?_toArray, List.getElem?_cons_zero, List.getElem?_cons_succ] at x0 x2 x3
        have gp4 : (w5.setCell ⟨Gp, 1, none⟩ (.int .i64 (T0 + (1 + nu)))).heap[Gp]? = some (.cells #[.slice (some ⟨Gk, oK, none⟩) 2 2, .int .i64 (T0 + (1 + nu)), .int .i64 c, .int .i64 t, .int .i64 0, .int .i64 lv, .bool a6] 105 (0, 0)) := block_set gp3 1 _
        have gk4 := blk_other gk3 HNE.out 1 (.int .i64 (T0 + (1 + nu)))
        have hb4 := hb3.setCell (p := ⟨Gp, 1, none⟩) hgw (.int .i64 (T0 + (1 + nu)))
        clear gq2 gp3 gk3 hb3 y0 y1 y2 y3 y4 y5 y6 f1 gq
        generalize w5.setCell ⟨Gp, 1, none⟩ (.int .i64 (T0 + (1 + nu))) = w6 at *
        go_wp2_with fail
        go_roundg (2 - (j + 1))
        case measure => have := HMJ.out; omega
        case rel => exact ⟨j + 1, by omega, rfl, by rw [E2.out], by go_num, gk4, by rw [E1.out]; exact gp4, hb4⟩
      · obtain rfl : j = 2 := by omega
        have hfin : ∀ e : Int, e * kTot ks 2 = 50 * kDif ks 2 → missN c t ks 2 e lv a6 4 [] * 1000 ≤ lv * powI (kTot ks 2 * (c + t)) 4 := fun e he => by
          have h20 : -1000 ≤ e ∧ e ≤ 1000 := by
            have h5 : e * kTot ks 2 ≤ 1000 * kTot ks 2 := by omega
            have h6 : -1000 * kTot ks 2 ≤ e * kTot ks 2 := by omega
            exact ⟨Int.le_of_mul_le_mul_right h6 (by omega), Int.le_of_mul_le_mul_right h5 (by omega)⟩
          exact level_law hcb htb h20 (kok_of (fun i hi => HKD.out i (by omega))) he hlb.1 hlb.2 4 (by omega)
        have heb : ∀ e : Int, e * kTot ks 2 = 50 * kDif ks 2 → -1000 ≤ e ∧ e ≤ 1000 := fun e he => by
          have h5 : e * kTot ks 2 ≤ 1000 * kTot ks 2 := by omega
          have h6 : -1000 * kTot ks 2 ≤ e * kTot ks 2 := by omega
          exact ⟨Int.le_of_mul_le_mul_right h6 (by omega), Int.le_of_mul_le_mul_right h5 (by omega)⟩
        have hmiss := fun (e : Int) (w' : World) (he : e * kTot ks 2 = 50 * kDif ks 2) h1 h2 => miss76 (some ⟨Gk, oK, none⟩) 2 2 ks c t e lv a6 4 hcb htb (heb e he) hlb.1 hlb.2 (by omega) r0 r1 r2 r3 (by omega) (by omega) (by omega) (fun i hi => HKD.out i (by omega)) 4 [] none 0 w' (by simp) (fun _ h => by cases h) (by simp) h1 h2
        obtain ⟨T, hT⟩ : ∃ x, kTot ks 2 = x := ⟨_, rfl⟩
        obtain ⟨D, hD⟩ : ∃ x, kDif ks 2 = x := ⟨_, rfl⟩
        rw [hT, hD] at hfin hmiss heb
        rw [hT] at hbj gp3 y1
        rw [hD] at hbj ⊢
        have HFIN := Lib.hid hfin
        have HMISS := Lib.hid hmiss
        have HEB := Lib.hid heb
        clear hfin hmiss heb hT hD
        have hT0 : ¬ T = 0 := by omega
        have hT1 : ¬ T = -1 := by omega
        obtain ⟨rm, hrm⟩ : ∃ r, (D * 50).tmod T = r := ⟨_, rfl⟩
        have n1 : IntKind.i64.wrap (D * 50) = D * 50 := IntWalk.i64_in _ (by omega)
        by_cases hz : rm = 0
        · subst hz
          obtain ⟨e, he⟩ : ∃ e, (D * 50).tdiv T = e := ⟨_, rfl⟩
          have heq : e * T = 50 * D := by
            have h1 := Int.mul_tdiv_add_tmod (D * 50) T
            rw [hrm, he, Int.mul_comm] at h1
            omega
          have heb := HEB.out e heq
          have n2 : IntKind.i64.wrap e = e := IntWalk.i64_in _ (by omega)
          have f4 := free_of_block gp3 4
          go_upto_region 17 with fail
          have gp4 : (wr.setCell ⟨Gp, 4, none⟩ (.int .i64 e)).heap[Gp]? = some (.cells #[.slice (some ⟨Gk, oK, none⟩) 2 2, .int .i64 T, .int .i64 c, .int .i64 t, .int .i64 e, .int .i64 lv, .bool a6] 105 (0, 0)) := block_set gp3 4 _
          have gk4 := blk_other gk3 HNE.out 4 (.int .i64 e)
          have hb4 := hb3.setCell (p := ⟨Gp, 4, none⟩) hgw (.int .i64 e)
          clear gp3 gk3 hb3 y0 y1 y2 y3 y4 y5 y6 f4
          generalize wr.setCell ⟨Gp, 4, none⟩ (.int .i64 e) = w6 at *
          obtain ⟨y0, y1, y2, y3, y4, y5, y6⟩ := cells7 gp4
          have hPb : 0 ≤ T * (c + t) ∧ T * (c + t) ≤ 36 := ⟨Int.mul_nonneg (by omega) (by omega), Int.le_trans (Int.mul_le_mul (show T ≤ 6 by omega) (show c + t ≤ 6 by omega) (by omega) (by omega)) (by decide)⟩
          have hlaw := HFIN.out e heq
          have HLAW := Lib.hid hlaw
          have HEQ := Lib.hid heq
          clear hlaw heq he hrm
          go_upto_region 19 with fail
          go_loopg [20, 21] 4 (fun mm s20 s21 wi => ∃ j : Nat, j ≤ 4 ∧ mm = 4 - j ∧ s20 = .int .i64 (powI (T * (c + t)) j) ∧ s21 = .int .i64 j ∧ w6 = wi)
          case atStart => exact ⟨0, by omega, by omega, rfl, rfl, rfl⟩
          case round =>
            obtain ⟨q, hq, hmq, rfl, rfl, rfl⟩ := hrel
            have HMQ := Lib.hid hmq
            clear hmq
            have q1 := powI_le6 hPb.1 hPb.2 (j := q) (by omega)
            by_cases hqn : q < 4
            · have hd : (q : Int) < 4 := by omega
              have q2 := powI_le6 hPb.1 hPb.2 (j := q + 1) (by omega)
              have e2 : powI (T * (c + t)) (q + 1) = powI (T * (c + t)) q * (T * (c + t)) := rfl
              rw [e2] at q2
              have n3 : IntKind.i64.wrap (T * (c + t)) = T * (c + t) := IntWalk.i64_in _ (by omega)
              have n4 : IntKind.i64.wrap (powI (T * (c + t)) q * (T * (c + t))) = powI (T * (c + t)) q * (T * (c + t)) := IntWalk.i64_in _ (by omega)
              go_wp2_with fail
              go_roundg (4 - (q + 1))
              case measure => have := HMQ.out; omega
              case rel => exact ⟨q + 1, by omega, rfl, rfl, by go_num, rfl⟩
            · obtain rfl : q = 4 := by omega
              have hpq := q1
              obtain ⟨M0, hM0⟩ : ∃ x, missN c t ks 2 e lv a6 4 [] = x := ⟨_, rfl⟩
              have hMb := missN_bd (adj := a6) (level := lv) (e := e) hcb htb (kok_of (fun i hi => HKD.out i (show i < 2 by omega)) : KOk ks 2) 4 []
              have hlaw := HLAW.out
              rw [hM0] at hMb hlaw
              obtain ⟨P0, hP0⟩ : ∃ x, powI (T * (c + t)) 4 = x := ⟨_, rfl⟩
              rw [hP0] at hlaw q1 ⊢
              have hMub : M0 ≤ 1000000000000 := by
                have : M0 * 1000 ≤ 999 * 2176782336 := Int.le_trans hlaw (Int.mul_le_mul hlb.2 q1.2 q1.1 (by decide))
                omega
              have hlp : lv * P0 ≤ 999 * 2176782336 := Int.mul_le_mul hlb.2 q1.2 q1.1 (by decide)
              have hlp0 : 0 ≤ lv * P0 := Int.mul_nonneg (by omega) q1.1
              have hMb0 := hMb.1
              have n5 : IntKind.i64.wrap (M0 * 1000) = M0 * 1000 := IntWalk.i64_in _ (by omega)
              have n6 : IntKind.i64.wrap (lv * P0) = lv * P0 := IntWalk.i64_in _ (by omega)
              have HM0 := Lib.hid hM0
              clear hM0 hMb hP0 hpq
              clear y0 y1 y2 y3 y4 y5 y6
              go_upto_region 22 with fail
              have hle : ∀ z : Beh LeW w6.drew, Below w6.heap.size w6 z.w := fun z => Below.trans (Below.refl _ w6).drew z.h
              have zp : ∀ z : Beh LeW w6.drew, z.w.heap[Gp]? = some (.cells #[.slice (some ⟨Gk, oK, none⟩) 2 2, .int .i64 T, .int .i64 c, .int .i64 t, .int .i64 e, .int .i64 lv, .bool a6] 105 (0, 0)) := fun z => ((hle z).block _ (lt_of_blk gp4)).trans gp4
              have zk : ∀ z : Beh LeW w6.drew, z.w.heap[Gk]? = some (.cells #[.int .u8 (r0 0), .int .u8 (r1 0), .int .u8 (r2 0), .int .u8 (r3 0), .int .u8 (r0 1), .int .u8 (r1 1), .int .u8 (r2 1), .int .u8 (r3 1)] 102 (0, 0)) := fun z => ((hle z).block _ (lt_of_blk gk4)).trans gk4
              have p0 : ∀ z : Beh LeW w6.drew, z.w.cell? ⟨Gp, 0, none⟩ = some (.slice (some ⟨Gk, oK, none⟩) 2 2) := fun z => (cells7 (zp z)).1
              have p1 : ∀ z : Beh LeW w6.drew, z.w.cell? ⟨Gp, 1, none⟩ = some (.int .i64 T) := fun z => (cells7 (zp z)).2.1
              have p2 : ∀ z : Beh LeW w6.drew, z.w.cell? ⟨Gp, 2, none⟩ = some (.int .i64 c) := fun z => (cells7 (zp z)).2.2.1
              have p3 : ∀ z : Beh LeW w6.drew, z.w.cell? ⟨Gp, 3, none⟩ = some (.int .i64 t) := fun z => (cells7 (zp z)).2.2.2.1
              have p4 : ∀ z : Beh LeW w6.drew, z.w.cell? ⟨Gp, 4, none⟩ = some (.int .i64 e) := fun z => (cells7 (zp z)).2.2.2.2.1
              have p5 : ∀ z : Beh LeW w6.drew, z.w.cell? ⟨Gp, 5, none⟩ = some (.int .i64 lv) := fun z => (cells7 (zp z)).2.2.2.2.2.1
              have p6 : ∀ z : Beh LeW w6.drew, z.w.cell? ⟨Gp, 6, none⟩ = some (.bool a6) := fun z => (cells7 (zp z)).2.2.2.2.2.2
              have hcz : ∀ z : Beh LeW w6.drew, Calls Try.prog 76 #[.agg #[.slice (some ⟨Gk, oK, none⟩) 2 2, .int .i64 T, .int .i64 c, .int .i64 t, .int .i64 e, .int .i64 lv, .bool a6], .slice none 0 0, .int .i64 4] z.w fun en w' => en = .returned (.int .i64 M0) ∧ LeW z.w w' := fun z =>
                (HMISS.out e z.w HEQ.out (rows_k2 (zk z) oK HOK.out 2 (by omega)) (fun h => absurd h (by simp))).mono fun en w' h => ⟨by rw [h.1, HM0.out], h.2⟩
              refine wp_region_late (R := LeW) 9 120 [(2, [], none)] (by kernel_rfl) (by kernel_rfl) (by kernel_rfl) rfl LeW.refl (fun _ _ _ => LeW.trans) ?_
              simp only [Late, List.take_succ_cons, List.drop_succ_cons, List.take_zero, List.drop_zero, Nat.sub_zero]
              repeat (go_big_quiet_step (fail))
              refine wpQuiet_nil ?_
              refine late_call Try.func76 (by kernel_rfl) (by kernel_rfl) hcz rfl (by simp only [Act.put, List.setIfInBounds_toArray, List.set_cons_succ, List.set_cons_zero]; rfl) ?_
              repeat (go_big_quiet_step (fail))
              refine wpQuiet_nil ?_
              intro z
              simp only [allGens]
              (try simp only [Act.put, List.setIfInBounds_toArray, List.set_cons_succ, List.set_cons_zero])
              replace hb4 := below_trans' hb4 hb4.size (hle z)
              clear hle zp zk p0 p1 p2 p3 p4 p5 p6 hcz
              generalize z.w = w7 at *
              go_wp2_with fail
              go_ret
              exact ⟨by first | rfl | (simp [hlaw]; done), hb4⟩
        · go_wp2_with fail
          go_ret
          exact ⟨rfl, hb3⟩
  · have y0 := cell_of_block gp 0
    have f0 := free_of_block gp 0
    simp only [List.getElem?_toArray, List.getElem?_cons_zero] at y0
    go_upto_region 7 with fail
    have gp2 : (w3.setCell ⟨Gp, 0, none⟩ (.slice (some ⟨Gk, 0, none⟩) 1 2)).heap[Gp]? = some (.cells #[.slice (some ⟨Gk, 0, none⟩) 1 2, .int .i64 0, .int .i64 c, .int .i64 t, .int .i64 0, .int .i64 lv, .bool a6] 105 (0, 0)) := block_set gp 0 _
    have gk2 : (w3.setCell ⟨Gp, 0, none⟩ (.slice (some ⟨Gk, 0, none⟩) 1 2)).heap[Gk]? = some (.cells #[.int .u8 (r0 0), .int .u8 (r1 0), .int .u8 (r2 0), .int .u8 (r3 0), .int .u8 (r0 1), .int .u8 (r1 1), .int .u8 (r2 1), .int .u8 (r3 1)] 102 (0, 0)) := blk_other gk HNE.out 0 _
    have hb2 : Below w.heap.size w (w3.setCell ⟨Gp, 0, none⟩ (.slice (some ⟨Gk, 0, none⟩) 1 2)) := hb.setCell hgw _
    clear gp gk hb y0 f0
    generalize w3.setCell ⟨Gp, 0, none⟩ (.slice (some ⟨Gk, 0, none⟩) 1 2) = w4 at *
    obtain ⟨oK, hoK⟩ : ∃ o, (0 : Nat) = o := ⟨_, rfl⟩
    replace gp2 : w4.heap[Gp]? = some (.cells #[.slice (some ⟨Gk, oK, none⟩) 1 2, .int .i64 0, .int .i64 c, .int .i64 t, .int .i64 0, .int .i64 lv, .bool a6] 105 (0, 0)) := by rw [← hoK]; exact gp2
    have HOK := Lib.hid hoK
    clear hoK
    obtain ⟨ks, hks⟩ : ∃ ks, kF r0 r1 r2 r3 = ks := ⟨_, rfl⟩
    rw [hks] at HKD
    have hbd := kD_bd HKD.out
    have HBD := Lib.hid hbd
    have HKS := Lib.hid hks
    clear hbd hks
    go_upto_region 9 with fail
    go_loopg [17, 18, 19] 1 (fun mm s17 s18 s19 wr => ∃ j : Nat, j ≤ 1 ∧ mm = 1 - j ∧ s17 = .int .i64 (kDif ks j) ∧ s18 = .int .i64 j ∧ wr.heap[Gk]? = some (.cells #[.int .u8 (r0 0), .int .u8 (r1 0), .int .u8 (r2 0), .int .u8 (r3 0), .int .u8 (r0 1), .int .u8 (r1 1), .int .u8 (r2 1), .int .u8 (r3 1)] 102 (0, 0)) ∧
      wr.heap[Gp]? = some (.cells #[.slice (some ⟨Gk, oK, none⟩) 1 2, .int .i64 (kTot ks j), .int .i64 c, .int .i64 t, .int .i64 0, .int .i64 lv, .bool a6] 105 (0, 0)) ∧ Below w.heap.size w wr)
    case atStart => exact ⟨0, by omega, by omega, rfl, rfl, gk2, gp2, hb2⟩
    case round =>
      obtain ⟨j, hj, hmj, rfl, rfl, gk3, gp3, hb3⟩ := hrel
      have HMJ := Lib.hid hmj
      clear hmj gk2 gp2 hb2
      have hbj := HBD.out j (by omega)
      obtain ⟨y0, y1, y2, y3, y4, y5, y6⟩ := cells7 gp3
      by_cases hjm : j < 1
      · have hdi : (j : Int) < 1 := by omega
        have hrow := rows_k2 gk3 oK HOK.out 1 (by omega)
        have x0 := rows_at hrow hjm (j := 0) rfl
        have x1 := rows_at hrow hjm (j := 1) rfl
        have x2 := rows_at hrow hjm (j := 2) rfl
        have x3 := rows_at hrow hjm (j := 3) rfl
        simp only [Nat.add_zero] at x0
        have hlk := lt_of_blk gk3
        have hlp := lt_of_blk gp3
        have hj2 : (j : Int) < 2 := by omega
        go_upto_region 12 with fail
        have hq : Below wr.heap.size wr (wr.alloc (.cells #[.int .u8 (r0 j), .int .u8 (r1 j), .int .u8 (r2 j), .int .u8 (r3 j)] 102)) := (Below.refl _ _).alloc (Nat.le_refl _) _
        have gq := heap_alloc_new wr (.cells #[.int .u8 (r0 j), .int .u8 (r1 j), .int .u8 (r2 j), .int .u8 (r3 j)] 102)
        replace gk3 := blk_kept1 hq gk3
        replace gp3 := blk_kept1 hq gp3
        replace hb3 := below_trans' hb3 hb3.size hq
        clear x0 x1 x2 x3 y0 y1 y2 y3 y4 y5 y6 hrow hlk hq
        generalize wr.alloc (.cells #[.int .u8 (r0 j), .int .u8 (r1 j), .int .u8 (r2 j), .int .u8 (r3 j)] 102) = w5 at *
        have hneq : wr.heap.size ≠ Gp := by omega
        have HNQ := Lib.hid hneq
        clear hneq hlp
        generalize wr.heap.size = Gq at *
        have gq2 : ∀ u, (w5.setCell ⟨Gp, 1, none⟩ u).heap[Gq]? = some (.cells #[.int .u8 (r0 j), .int .u8 (r1 j), .int .u8 (r2 j), .int .u8 (r3 j)] 102 (0, 0)) := fun u => blk_other gq HNQ.out 1 u
        obtain ⟨y0, y1, y2, y3, y4, y5, y6⟩ := cells7 gp3
        have f1 := free_of_block gp3 1
        have x0 := cell_of_block gq 0
        simp only [List.getElem?_toArray, List.getElem?_cons_zero] at x0
        obtain ⟨hr0, hr1, hr2, hr3, hkk⟩ := HKD.out j (by omega)
        have e1 : kTot ks (j + 1) = kTot ks j + (ks j).num := rfl
        have e2 : kDif ks (j + 1) = kDif ks j + (ks j).num * ((ks j).two - (ks j).one) := rfl
        rw [hkk] at e1 e2
        dsimp only at e1 e2
        obtain ⟨nu, hnu⟩ : ∃ x, r0 j % 3 = x := ⟨_, rfl⟩
        obtain ⟨va, hva⟩ : ∃ x, r2 j % 21 = x := ⟨_, rfl⟩
        obtain ⟨vb, hvb⟩ : ∃ x, r3 j % 21 = x := ⟨_, rfl⟩
        rw [hnu] at e1 e2
        rw [hva, hvb] at e2
        have hnub : 0 ≤ nu ∧ nu ≤ 2 := by omega
        have hvab : 0 ≤ va ∧ va ≤ 20 := by omega
        have hvbb : 0 ≤ vb ∧ vb ≤ 20 := by omega
        have c1 := Int.mul_le_mul_of_nonneg_left (show vb - va ≤ 20 by omega) (show 0 ≤ 1 + nu by omega)
        have c2 := Int.mul_le_mul_of_nonneg_left (show -20 ≤ vb - va by omega) (show 0 ≤ 1 + nu by omega)
        have E1 := Lib.hid e1
        have E2 := Lib.hid e2
        clear e1 e2 hkk
        obtain ⟨T0, hT0⟩ : ∃ x, kTot ks j = x := ⟨_, rfl⟩
        obtain ⟨D0, hD0⟩ : ∃ x, kDif ks j = x := ⟨_, rfl⟩
        rw [hT0] at E1 hbj y1 gp3
        rw [hD0] at E2 hbj ⊢
        have n1 : IntKind.i64.wrap ((1 + nu) * (vb - va)) = (1 + nu) * (vb - va) := IntWalk.i64_in _ (by omega)
        have n2 : IntKind.i64.wrap (D0 + (1 + nu) * (vb - va)) = D0 + (1 + nu) * (vb - va) := IntWalk.i64_in _ (by omega)
        have n3 : IntKind.i64.wrap (T0 + (1 + nu)) = T0 + (1 + nu) := IntWalk.i64_in _ (by omega)
        clear hT0 hD0
        go_upto_region 13 with fail
        have x0 := cell_of_block (gq2 (.int .i64 (T0 + (1 + nu)))) 0
        have x2 := cell_of_block (gq2 (.int .i64 (T0 + (1 + nu)))) 2
        have x3 := cell_of_block (gq2 (.int .i64 (T0 + (1 + nu)))) 3
        simp only [List.getElem?_toArray, List.getElem?_cons_zero, List.getElem?_cons_succ] at x0 x2 x3
        have gp4 : (w5.setCell ⟨Gp, 1, none⟩ (.int .i64 (T0 + (1 + nu)))).heap[Gp]? = some (.cells #[.slice (some ⟨Gk, oK, none⟩) 1 2, .int .i64 (T0 + (1 + nu)), .int .i64 c, .int .i64 t, .int .i64 0, .int .i64 lv, .bool a6] 105 (0, 0)) := block_set gp3 1 _
        have gk4 := blk_other gk3 HNE.out 1 (.int .i64 (T0 + (1 + nu)))
        have hb4 := hb3.setCell (p := ⟨Gp, 1, none⟩) hgw (.int .i64 (T0 + (1 + nu)))
        clear gq2 gp3 gk3 hb3 y0 y1 y2 y3 y4 y5 y6 f1 gq
        generalize w5.setCell ⟨Gp, 1, none⟩ (.int .i64 (T0 + (1 + nu))) = w6 at *
        go_wp2_with fail
        go_roundg (1 - (j + 1))
        case measure => have := HMJ.out; omega
        case rel => exact ⟨j + 1, by omega, rfl, by rw [E2.out], by go_num, gk4, by rw [E1.out]; exact gp4, hb4⟩
      · obtain rfl : j = 1 := by omega
        have hfin : ∀ e : Int, e * kTot ks 1 = 50 * kDif ks 1 → missN c t ks 1 e lv a6 6 [] * 1000 ≤ lv * powI (kTot ks 1 * (c + t)) 6 := fun e he => by
          have h20 : -1000 ≤ e ∧ e ≤ 1000 := by
            have h5 : e * kTot ks 1 ≤ 1000 * kTot ks 1 := by omega
            have h6 : -1000 * kTot ks 1 ≤ e * kTot ks 1 := by omega
            exact ⟨Int.le_of_mul_le_mul_right h6 (by omega), Int.le_of_mul_le_mul_right h5 (by omega)⟩
          exact level_law hcb htb h20 (kok_of (fun i hi => HKD.out i (by omega))) he hlb.1 hlb.2 6 (by omega)
        have heb : ∀ e : Int, e * kTot ks 1 = 50 * kDif ks 1 → -1000 ≤ e ∧ e ≤ 1000 := fun e he => by
          have h5 : e * kTot ks 1 ≤ 1000 * kTot ks 1 := by omega
          have h6 : -1000 * kTot ks 1 ≤ e * kTot ks 1 := by omega
          exact ⟨Int.le_of_mul_le_mul_right h6 (by omega), Int.le_of_mul_le_mul_right h5 (by omega)⟩
        have hmiss := fun (e : Int) (w' : World) (he : e * kTot ks 1 = 50 * kDif ks 1) h1 h2 => miss76 (some ⟨Gk, oK, none⟩) 1 2 ks c t e lv a6 6 hcb htb (heb e he) hlb.1 hlb.2 (by omega) r0 r1 r2 r3 (by omega) (by omega) (by omega) (fun i hi => HKD.out i (by omega)) 6 [] none 0 w' (by simp) (fun _ h => by cases h) (by simp) h1 h2
        obtain ⟨T, hT⟩ : ∃ x, kTot ks 1 = x := ⟨_, rfl⟩
        obtain ⟨D, hD⟩ : ∃ x, kDif ks 1 = x := ⟨_, rfl⟩
        rw [hT, hD] at hfin hmiss heb
        rw [hT] at hbj gp3 y1
        rw [hD] at hbj ⊢
        have HFIN := Lib.hid hfin
        have HMISS := Lib.hid hmiss
        have HEB := Lib.hid heb
        clear hfin hmiss heb hT hD
        have hT0 : ¬ T = 0 := by omega
        have hT1 : ¬ T = -1 := by omega
        obtain ⟨rm, hrm⟩ : ∃ r, (D * 50).tmod T = r := ⟨_, rfl⟩
        have n1 : IntKind.i64.wrap (D * 50) = D * 50 := IntWalk.i64_in _ (by omega)
        by_cases hz : rm = 0
        · subst hz
          obtain ⟨e, he⟩ : ∃ e, (D * 50).tdiv T = e := ⟨_, rfl⟩
          have heq : e * T = 50 * D := by
            have h1 := Int.mul_tdiv_add_tmod (D * 50) T
            rw [hrm, he, Int.mul_comm] at h1
            omega
          have heb := HEB.out e heq
          have n2 : IntKind.i64.wrap e = e := IntWalk.i64_in _ (by omega)
          have f4 := free_of_block gp3 4
          go_upto_region 17 with fail
          have gp4 : (wr.setCell ⟨Gp, 4, none⟩ (.int .i64 e)).heap[Gp]? = some (.cells #[.slice (some ⟨Gk, oK, none⟩) 1 2, .int .i64 T, .int .i64 c, .int .i64 t, .int .i64 e, .int .i64 lv, .bool a6] 105 (0, 0)) := block_set gp3 4 _
          have gk4 := blk_other gk3 HNE.out 4 (.int .i64 e)
          have hb4 := hb3.setCell (p := ⟨Gp, 4, none⟩) hgw (.int .i64 e)
          clear gp3 gk3 hb3 y0 y1 y2 y3 y4 y5 y6 f4
          generalize wr.setCell ⟨Gp, 4, none⟩ (.int .i64 e) = w6 at *
          obtain ⟨y0, y1, y2, y3, y4, y5, y6⟩ := cells7 gp4
          have hPb : 0 ≤ T * (c + t) ∧ T * (c + t) ≤ 36 := ⟨Int.mul_nonneg (by omega) (by omega), Int.le_trans (Int.mul_le_mul (show T ≤ 6 by omega) (show c + t ≤ 6 by omega) (by omega) (by omega)) (by decide)⟩
          have hlaw := HFIN.out e heq
          have HLAW := Lib.hid hlaw
          have HEQ := Lib.hid heq
          clear hlaw heq he hrm
          go_upto_region 19 with fail
          go_loopg [20, 21] 6 (fun mm s20 s21 wi => ∃ j : Nat, j ≤ 6 ∧ mm = 6 - j ∧ s20 = .int .i64 (powI (T * (c + t)) j) ∧ s21 = .int .i64 j ∧ w6 = wi)
          case atStart => exact ⟨0, by omega, by omega, rfl, rfl, rfl⟩
          case round =>
            obtain ⟨q, hq, hmq, rfl, rfl, rfl⟩ := hrel
            have HMQ := Lib.hid hmq
            clear hmq
            have q1 := powI_le6 hPb.1 hPb.2 (j := q) (by omega)
            by_cases hqn : q < 6
            · have hd : (q : Int) < 6 := by omega
              have q2 := powI_le6 hPb.1 hPb.2 (j := q + 1) (by omega)
              have e2 : powI (T * (c + t)) (q + 1) = powI (T * (c + t)) q * (T * (c + t)) := rfl
              rw [e2] at q2
              have n3 : IntKind.i64.wrap (T * (c + t)) = T * (c + t) := IntWalk.i64_in _ (by omega)
              have n4 : IntKind.i64.wrap (powI (T * (c + t)) q * (T * (c + t))) = powI (T * (c + t)) q * (T * (c + t)) := IntWalk.i64_in _ (by omega)
              go_wp2_with fail
              go_roundg (6 - (q + 1))
              case measure => have := HMQ.out; omega
              case rel => exact ⟨q + 1, by omega, rfl, rfl, by go_num, rfl⟩
            · obtain rfl : q = 6 := by omega
              have hpq := q1
              obtain ⟨M0, hM0⟩ : ∃ x, missN c t ks 1 e lv a6 6 [] = x := ⟨_, rfl⟩
              have hMb := missN_bd (adj := a6) (level := lv) (e := e) hcb htb (kok_of (fun i hi => HKD.out i (show i < 2 by omega)) : KOk ks 1) 6 []
              have hlaw := HLAW.out
              rw [hM0] at hMb hlaw
              obtain ⟨P0, hP0⟩ : ∃ x, powI (T * (c + t)) 6 = x := ⟨_, rfl⟩
              rw [hP0] at hlaw q1 ⊢
              have hMub : M0 ≤ 1000000000000 := by
                have : M0 * 1000 ≤ 999 * 2176782336 := Int.le_trans hlaw (Int.mul_le_mul hlb.2 q1.2 q1.1 (by decide))
                omega
              have hlp : lv * P0 ≤ 999 * 2176782336 := Int.mul_le_mul hlb.2 q1.2 q1.1 (by decide)
              have hlp0 : 0 ≤ lv * P0 := Int.mul_nonneg (by omega) q1.1
              have hMb0 := hMb.1
              have n5 : IntKind.i64.wrap (M0 * 1000) = M0 * 1000 := IntWalk.i64_in _ (by omega)
              have n6 : IntKind.i64.wrap (lv * P0) = lv * P0 := IntWalk.i64_in _ (by omega)
              have HM0 := Lib.hid hM0
              clear hM0 hMb hP0 hpq
              clear y0 y1 y2 y3 y4 y5 y6
              go_upto_region 22 with fail
              have hle : ∀ z : Beh LeW w6.drew, Below w6.heap.size w6 z.w := fun z => Below.trans (Below.refl _ w6).drew z.h
              have zp : ∀ z : Beh LeW w6.drew, z.w.heap[Gp]? = some (.cells #[.slice (some ⟨Gk, oK, none⟩) 1 2, .int .i64 T, .int .i64 c, .int .i64 t, .int .i64 e, .int .i64 lv, .bool a6] 105 (0, 0)) := fun z => ((hle z).block _ (lt_of_blk gp4)).trans gp4
              have zk : ∀ z : Beh LeW w6.drew, z.w.heap[Gk]? = some (.cells #[.int .u8 (r0 0), .int .u8 (r1 0), .int .u8 (r2 0), .int .u8 (r3 0), .int .u8 (r0 1), .int .u8 (r1 1), .int .u8 (r2 1), .int .u8 (r3 1)] 102 (0, 0)) := fun z => ((hle z).block _ (lt_of_blk gk4)).trans gk4
              have p0 : ∀ z : Beh LeW w6.drew, z.w.cell? ⟨Gp, 0, none⟩ = some (.slice (some ⟨Gk, oK, none⟩) 1 2) := fun z => (cells7 (zp z)).1
              have p1 : ∀ z : Beh LeW w6.drew, z.w.cell? ⟨Gp, 1, none⟩ = some (.int .i64 T) := fun z => (cells7 (zp z)).2.1
              have p2 : ∀ z : Beh LeW w6.drew, z.w.cell? ⟨Gp, 2, none⟩ = some (.int .i64 c) := fun z => (cells7 (zp z)).2.2.1
              have p3 : ∀ z : Beh LeW w6.drew, z.w.cell? ⟨Gp, 3, none⟩ = some (.int .i64 t) := fun z => (cells7 (zp z)).2.2.2.1
              have p4 : ∀ z : Beh LeW w6.drew, z.w.cell? ⟨Gp, 4, none⟩ = some (.int .i64 e) := fun z => (cells7 (zp z)).2.2.2.2.1
              have p5 : ∀ z : Beh LeW w6.drew, z.w.cell? ⟨Gp, 5, none⟩ = some (.int .i64 lv) := fun z => (cells7 (zp z)).2.2.2.2.2.1
              have p6 : ∀ z : Beh LeW w6.drew, z.w.cell? ⟨Gp, 6, none⟩ = some (.bool a6) := fun z => (cells7 (zp z)).2.2.2.2.2.2
              have hcz : ∀ z : Beh LeW w6.drew, Calls Try.prog 76 #[.agg #[.slice (some ⟨Gk, oK, none⟩) 1 2, .int .i64 T, .int .i64 c, .int .i64 t, .int .i64 e, .int .i64 lv, .bool a6], .slice none 0 0, .int .i64 6] z.w fun en w' => en = .returned (.int .i64 M0) ∧ LeW z.w w' := fun z =>
                (HMISS.out e z.w HEQ.out (rows_k2 (zk z) oK HOK.out 1 (by omega)) (fun h => absurd h (by simp))).mono fun en w' h => ⟨by rw [h.1, HM0.out], h.2⟩
              refine wp_region_late (R := LeW) 9 120 [(2, [], none)] (by kernel_rfl) (by kernel_rfl) (by kernel_rfl) rfl LeW.refl (fun _ _ _ => LeW.trans) ?_
              simp only [Late, List.take_succ_cons, List.drop_succ_cons, List.take_zero, List.drop_zero, Nat.sub_zero]
              repeat (go_big_quiet_step (fail))
              refine wpQuiet_nil ?_
              refine late_call Try.func76 (by kernel_rfl) (by kernel_rfl) hcz rfl (by simp only [Act.put, List.setIfInBounds_toArray, List.set_cons_succ, List.set_cons_zero]; rfl) ?_
              repeat (go_big_quiet_step (fail))
              refine wpQuiet_nil ?_
              intro z
              simp only [allGens]
              (try simp only [Act.put, List.setIfInBounds_toArray, List.set_cons_succ, List.set_cons_zero])
              replace hb4 := below_trans' hb4 hb4.size (hle z)
              clear hle zp zk p0 p1 p2 p3 p4 p5 p6 hcz
              generalize z.w = w7 at *
              go_wp2_with fail
              go_ret
              exact ⟨by first | rfl | (simp [hlaw]; done), hb4⟩
        · go_wp2_with fail
          go_ret
          exact ⟨rfl, hb3⟩
end Go.Proofs.Ytgonighpjpfmnaa
