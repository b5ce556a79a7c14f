/- Estimates of lists of numbers: what they compute, their sizes, their laws. Plain: no program. -/
import Derived.Test.YtpligjkbnlfhgaaGreatDoorPl
namespace Go.Proofs.YtpligjkbnlfhgaaGreatDoor

/-- The sum of the first n numbers. -/
def sumF (f : Nat → Int) : Nat → Int
  | 0 => 0
  | n + 1 => sumF f n + f n
def dotF (f g : Nat → Int) (n : Nat) : Int := sumF (fun i => f i * g i) n

theorem sumF_bd {f : Nat → Int} {c : Int} : ∀ {n : Nat}, (∀ i, i < n → -c ≤ f i ∧ f i ≤ c) → -((n : Int) * c) ≤ sumF f n ∧ sumF f n ≤ (n : Int) * c
  | 0, _ => by simp [sumF]
  | n + 1, h => by
    have a := sumF_bd (n := n) fun i hi => h i (by omega)
    have b := h n (by omega)
    have e : ((n + 1 : Nat) : Int) * c = (n : Int) * c + c := by rw [Int.natCast_add, Int.natCast_one, Int.add_mul, Int.one_mul]
    rw [e, sumF]; omega
theorem sumF_congr {f g : Nat → Int} : ∀ {n : Nat}, (∀ i, i < n → f i = g i) → sumF f n = sumF g n
  | 0, _ => rfl
  | n + 1, h => by rw [sumF, sumF, sumF_congr fun i hi => h i (by omega), h n (by omega)]
theorem sumF_add (f g : Nat → Int) : ∀ n : Nat, sumF (fun i => f i + g i) n = sumF f n + sumF g n
  | 0 => rfl
  | n + 1 => by rw [sumF, sumF, sumF, sumF_add f g n]; omega
theorem sumF_mul (k : Int) (f : Nat → Int) : ∀ n : Nat, sumF (fun i => k * f i) n = k * sumF f n
  | 0 => by simp [sumF]
  | n + 1 => by rw [sumF, sumF, sumF_mul k f n, Int.mul_add]
theorem sumF_const (c : Int) : ∀ n : Nat, sumF (fun _ => c) n = (n : Int) * c
  | 0 => by simp [sumF]
  | n + 1 => by rw [sumF, sumF_const c n, Int.natCast_add, Int.natCast_one, Int.add_mul, Int.one_mul]
theorem sumF_nonneg {f : Nat → Int} : ∀ {n : Nat}, (∀ i, i < n → 0 ≤ f i) → 0 ≤ sumF f n
  | 0, _ => Int.le_refl _
  | n + 1, h => by
    have a := sumF_nonneg (n := n) fun i hi => h i (by omega)
    have b := h n (by omega)
    rw [sumF]; omega
theorem dotF_comm (f g : Nat → Int) (n : Nat) : dotF f g n = dotF g f n := sumF_congr fun _ _ => Int.mul_comm _ _

/-- n (n - 1) times the covariance. -/
def covI (f g : Nat → Int) (n : Nat) : Int := n * dotF f g n - sumF f n * sumF g n
theorem covI_comm (f g : Nat → Int) (n : Nat) : covI f g n = covI g f n := by unfold covI; rw [dotF_comm, Int.mul_comm (sumF f n)]
theorem covI_add (f g h : Nat → Int) (n : Nat) : covI f (fun i => g i + h i) n = covI f g n + covI f h n := by
  unfold covI dotF
  rw [show (fun i => f i * (g i + h i)) = fun i => f i * g i + f i * h i from funext fun i => Int.mul_add _ _ _, sumF_add, sumF_add]
  grind
theorem covI_lin (f g : Nat → Int) (k c : Int) (n : Nat) : covI f (fun i => k * g i + c) n = k * covI f g n := by
  unfold covI dotF
  rw [show (fun i => f i * (k * g i + c)) = fun i => k * (f i * g i) + c * f i from funext fun i => by grind, sumF_add, sumF_add, sumF_mul, sumF_mul, sumF_mul, sumF_const]
  grind
theorem covI_congr {f f' g g' : Nat → Int} {n : Nat} (h1 : ∀ i, i < n → f i = f' i) (h2 : ∀ i, i < n → g i = g' i) : covI f g n = covI f' g' n := by
  unfold covI dotF
  rw [sumF_congr h1, sumF_congr h2, sumF_congr (f := fun i => f i * g i) (g := fun i => f' i * g' i) fun i hi => by rw [h1 i hi, h2 i hi]]
theorem sq_nonneg' (x : Int) : 0 ≤ x * x := by
  rcases Int.le_total 0 x with h | h
  · exact Int.mul_nonneg h h
  · exact Int.mul_nonneg_of_nonpos_of_nonpos h h
theorem sum_sq (f : Nat → Int) (x : Int) (n : Nat) : sumF (fun i => (x - f i) * (x - f i)) n = n * (x * x) - 2 * x * sumF f n + dotF f f n := by
  rw [show (fun i => (x - f i) * (x - f i)) = fun i => (x * x + (-(2 * x)) * f i) + f i * f i from funext fun i => by
    show (x - f i) * (x - f i) = (x * x + (-(2 * x)) * f i) + f i * f i
    grind, sumF_add, sumF_add, sumF_mul (-(2 * x)) f, sumF_const]
  unfold dotF; grind
theorem covI_nonneg (f : Nat → Int) : ∀ n : Nat, 0 ≤ covI f f n
  | 0 => by simp [covI, sumF, dotF]
  | n + 1 => by
    have a := covI_nonneg f n
    have b := sumF_nonneg (f := fun i => (f n - f i) * (f n - f i)) (n := n) fun _ _ => sq_nonneg' _
    rw [sum_sq] at b
    have e : covI f f (n + 1) = covI f f n + (n * (f n * f n) - 2 * f n * sumF f n + dotF f f n) := by
      unfold covI dotF
      rw [sumF, sumF, Int.natCast_add]
      grind
    rw [e]; omega

/-! ### As fractions -/
def frQ (a b : Int) : Rat := (a : Rat) / (b : Rat)
theorem ofT_fr {a b : Int} (hb : 0 < b) : ofT a b = wrR (frQ a b) := by
  have e : ratP (decide (a < 0) != decide (b < 0)) a.natAbs b.natAbs = frQ a b := by
    rw [show decide (b < 0) = false from decide_eq_false (by omega), Bool.bne_false, ← ratP_mkRat, Rat.mkRat_eq_div]
    unfold frQ
    rw [show ((b.natAbs : Nat) : Rat) = (b : Rat) by
      have h : ((b.natAbs : Int)) = b := by omega
      rw [← Rat.intCast_natCast, h]]
  unfold ofT
  rw [if_neg (by omega), e]
theorem ofT_fr_neg {a b : Int} (hb : b < 0) : ofT a b = wrR (frQ a b) := by
  have e : ratP (decide (a < 0) != decide (b < 0)) a.natAbs b.natAbs = frQ a b := by
    rw [show decide (b < 0) = true from decide_eq_true hb]
    have h := ratP_neg (decide (a < 0)) a.natAbs b.natAbs
    rw [Bool.bne_true, ← h, ← ratP_mkRat, Rat.mkRat_eq_div]
    unfold frQ
    have h' : ((b.natAbs : Nat) : Rat) = -(b : Rat) := by
      have h : ((b.natAbs : Int)) = -b := by omega
      rw [← Rat.intCast_natCast, h, Rat.intCast_neg]
    rw [h']
    have hb0 : (b : Rat) ≠ 0 := by intro e; exact absurd (Rat.intCast_inj.1 (e.trans (by rfl : (0 : Rat) = ((0 : Int) : Rat)))) (by omega)
    grind
  unfold ofT
  rw [if_neg (by omega), e]

/-- A fraction of so many binary digits. -/
def E2 (a b : Nat) (x : Rat) : Prop := bdR (2 ^ a) (2 ^ b) x
theorem E2.mono {a b c d : Nat} {x : Rat} (h : E2 a b x) (h1 : a ≤ c) (h2 : b ≤ d) : E2 c d x := bdR.mono h (Nat.pow_le_pow_right (by omega) h1) (Nat.pow_le_pow_right (by omega) h2)
theorem E2.mul {a b c d : Nat} {x y : Rat} (h : E2 a b x) (g : E2 c d y) : E2 (a + c) (b + d) (x * y) := by
  have := bdR.mul h g
  rwa [← Nat.pow_add, ← Nat.pow_add] at this
theorem E2.add {a b c d e : Nat} {x y : Rat} (h : E2 a b x) (g : E2 c d y) (h1 : a + d ≤ e) (h2 : c + b ≤ e) : E2 (e + 1) (b + d) (x + y) := by
  have := bdR.add h g
  rw [← Nat.pow_add, ← Nat.pow_add, ← Nat.pow_add] at this
  refine this.mono ?_ (Nat.le_refl _)
  have k1 := Nat.pow_le_pow_right (n := 2) (by omega) h1
  have k2 := Nat.pow_le_pow_right (n := 2) (by omega) h2
  rw [Nat.pow_succ]; omega
theorem E2.sub {a b c d e : Nat} {x y : Rat} (h : E2 a b x) (g : E2 c d y) (h1 : a + d ≤ e) (h2 : c + b ≤ e) : E2 (e + 1) (b + d) (x - y) := by
  rw [Rat.sub_eq_add_neg]
  exact E2.add h (bdR.neg g) h1 h2
theorem E2.div {a b c d : Nat} {x y : Rat} (h : E2 a b x) (g : E2 c d y) (hy : y ≠ 0) : E2 (a + d) (b + c) (x / y) := by
  have := bdR.div h g hy
  rwa [← Nat.pow_add, ← Nat.pow_add] at this
theorem pow_ten {m k : Nat} (hm : m ≠ 0) (hk : k ≤ 13 * m) : 2 ^ k < 10 ^ (4 * m) := by
  refine Nat.lt_of_le_of_lt (Nat.pow_le_pow_right (by omega) hk) ?_
  rw [Nat.pow_mul, Nat.pow_mul]
  exact Nat.pow_lt_pow_left (by decide) hm
theorem two_ten {k : Nat} (hk : k ≤ 1300) : 2 ^ k < 10 ^ 400 := by
  have h := pow_ten (m := 100) (k := k) (by decide) hk
  rwa [show 4 * 100 = 400 from rfl] at h
theorem E2.fits {a b : Nat} {x : Rat} (h : E2 a b x) (h1 : a ≤ 1300) (h2 : b ≤ 1300) : fitsR x := bdR.fits h (two_ten h1) (two_ten h2)
/-- A fraction with a known denominator. -/
theorem E2.of_int {a b : Nat} {n d : Int} (hd : d ≠ 0) (h1 : n.natAbs ≤ 2 ^ a) (h2 : d.natAbs ≤ 2 ^ b) : E2 a b (frQ n d) := by
  have key : ∀ {n d : Int}, 0 < d → n.natAbs ≤ 2 ^ a → d.natAbs ≤ 2 ^ b → E2 a b (frQ n d) := fun {n d} hd h1 h2 => by
    unfold frQ
    rw [show (d : Rat) = ((d.natAbs : Nat) : Rat) by
      have h : ((d.natAbs : Int)) = d := by omega
      rw [← Rat.intCast_natCast, h], ← Rat.mkRat_eq_div]
    exact (bd_mkRat (by omega) h1).mono (Nat.le_refl _) h2
  rcases Int.lt_or_gt_of_ne hd with h | h
  · have := key (n := -n) (d := -d) (by omega) (by omega) (by omega)
    rw [show frQ n d = frQ (-n) (-d) by unfold frQ; rw [Rat.intCast_neg, Rat.intCast_neg]; grind]
    exact this
  · exact key h h1 h2

theorem fr_add {a b c : Int} : frQ a c + frQ b c = frQ (a + b) c := by unfold frQ; rw [Rat.intCast_add]; grind
theorem cast_ne {d : Int} (h : d ≠ 0) : (d : Rat) ≠ 0 := fun e => h (Rat.intCast_inj.1 (e.trans (by rfl : (0 : Rat) = ((0 : Int) : Rat))))

/-! ### What the functions compute -/
def meanQ (f : Nat → Int) (n : Nat) : Rat := frQ (sumF f n) n
def covQ (f g : Nat → Int) (n : Nat) : Rat := frQ (covI f g n) (n * (n - 1))
def varQ (f : Nat → Int) (n : Nat) : Rat := covQ f f n / frQ n 1
def tQ (f g : Nat → Int) (n : Nat) : Rat := if covQ g g n = 0 then frQ 0 1 else covQ f g n / covQ g g n
def adjM (f g : Nat → Int) (n : Nat) (c : Rat) : Rat := frQ (sumF f n) n - tQ f g n * (frQ (sumF g n) n - c)
def adjV (f g : Nat → Int) (n : Nat) : Rat := (covQ f f n - frQ 2 1 * (tQ f g n * covQ f g n) + tQ f g n * tQ f g n * covQ g g n) / frQ n 1
def sqS (A B : Int) (f g : Nat → Int) (k : Nat) : Int := sumF (fun i => (B * f i - A * g i) * (B * f i - A * g i)) k
def sqQ (A B : Int) (f g : Nat → Int) (k : Nat) : Rat := frQ (sqS A B f g k) (B * B)
theorem sqQ_zero (A B : Int) (f g : Nat → Int) : sqQ A B f g 0 = frQ 0 1 := by unfold sqQ sqS sumF frQ; grind
theorem sqQ_succ {A B : Int} (hB : B ≠ 0) (f g : Nat → Int) (k : Nat) : sqQ A B f g (k + 1) = sqQ A B f g k + (frQ (f k) 1 - frQ A B * frQ (g k) 1) * (frQ (f k) 1 - frQ A B * frQ (g k) 1) := by
  have h := cast_ne hB
  unfold sqQ sqS
  rw [sumF]
  unfold frQ
  simp only [Rat.intCast_add, Rat.intCast_mul, Rat.intCast_sub]
  have e : ((1 : Int) : Rat) = 1 := rfl
  rw [e]
  grind
end Go.Proofs.YtpligjkbnlfhgaaGreatDoor
