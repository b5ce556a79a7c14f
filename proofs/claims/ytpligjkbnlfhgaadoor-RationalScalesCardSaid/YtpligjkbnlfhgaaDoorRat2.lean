/- Bounds of fractions; what the operations on texts compute. Plain: no program. -/
import Derived.Test.YtpligjkbnlfhgaaDoorRat1
namespace Go.Proofs.YtpligjkbnlfhgaaDoor

/-- Bounds of numerator and denominator. -/
structure bdR (n d : Nat) (x : Rat) : Prop where
  num : x.num.natAbs ≤ n
  den : x.den ≤ d
theorem bd_mkRat {a : Int} {n d : Nat} (hd : d ≠ 0) (ha : a.natAbs ≤ n) : bdR n d (mkRat a d) := by
  rw [ratP_mkRat]
  obtain ⟨h1, h2, _⟩ := ratP_num (neg := decide (a < 0)) (n := a.natAbs) hd
  refine ⟨?_, ?_⟩
  · rw [h1]; exact Nat.le_trans (Nat.div_le_self _ _) ha
  · rw [h2]; exact Nat.div_le_self _ _
theorem bd_ratP {s : Bool} {n d : Nat} (hd : d ≠ 0) : bdR n d (ratP s n d) := by
  obtain ⟨h1, h2, _⟩ := ratP_num (neg := s) (n := n) hd
  exact ⟨by rw [h1]; exact Nat.div_le_self _ _, by rw [h2]; exact Nat.div_le_self _ _⟩
theorem bdR.mono {n d m e : Nat} {x : Rat} (h : bdR n d x) (h1 : n ≤ m) (h2 : d ≤ e) : bdR m e x := ⟨Nat.le_trans h.num h1, Nat.le_trans h.den h2⟩
theorem bdR.neg {n d : Nat} {x : Rat} (h : bdR n d x) : bdR n d (-x) := ⟨by rw [Rat.neg_num, Int.natAbs_neg]; exact h.num, by rw [Rat.neg_den]; exact h.den⟩
theorem bdR.mul {n d m e : Nat} {x y : Rat} (h : bdR n d x) (g : bdR m e y) : bdR (n * m) (d * e) (x * y) := by
  rw [← ratP_self x, ← ratP_self y, ratP_mul]
  refine (bd_ratP (Nat.mul_ne_zero x.den_nz y.den_nz)).mono (Nat.mul_le_mul h.num g.num) (Nat.mul_le_mul h.den g.den)
theorem natAbs_sI (s : Bool) (n : Nat) : (sI s n).natAbs = n := by cases s <;> simp [sI]
theorem bdR.add {n d m e : Nat} {x y : Rat} (h : bdR n d x) (g : bdR m e y) : bdR (n * e + m * d) (d * e) (x + y) := by
  rw [← ratP_self x, ← ratP_self y, ratP_add x.den_nz y.den_nz]
  have h1 : x.num.natAbs * y.den ≤ n * e := Nat.mul_le_mul h.num g.den
  have h2 : y.num.natAbs * x.den ≤ m * d := Nat.mul_le_mul g.num h.den
  refine (bd_mkRat (n := x.num.natAbs * y.den + y.num.natAbs * x.den) (Nat.mul_ne_zero x.den_nz y.den_nz) ?_).mono (by omega) (Nat.mul_le_mul h.den g.den)
  have := Int.natAbs_add_le (sI (decide (x.num < 0)) (x.num.natAbs * y.den)) (sI (decide (y.num < 0)) (y.num.natAbs * x.den))
  rwa [natAbs_sI, natAbs_sI] at this
theorem bdR.sub {n d m e : Nat} {x y : Rat} (h : bdR n d x) (g : bdR m e y) : bdR (n * e + m * d) (d * e) (x - y) := by
  rw [Rat.sub_eq_add_neg]; exact h.add g.neg
theorem bdR.div {n d m e : Nat} {x y : Rat} (h : bdR n d x) (g : bdR m e y) (hy : y ≠ 0) : bdR (n * e) (d * m) (x / y) := by
  have h0 : y.num.natAbs ≠ 0 := fun h => hy (by
    have := (ratP_zero (s := decide (y.num < 0)) (n := y.num.natAbs) y.den_nz).2 h
    rwa [ratP_self] at this)
  rw [← ratP_self x, ← ratP_self y, ratP_div h0 y.den_nz]
  exact (bd_ratP (Nat.mul_ne_zero x.den_nz h0)).mono (Nat.mul_le_mul h.num g.den) (Nat.mul_le_mul h.den g.num)
theorem bdR.fits {n d : Nat} {x : Rat} (h : bdR n d x) (hn : n < 10 ^ 400) (hd : d < 10 ^ 400) : fitsR x := ⟨Nat.lt_of_le_of_lt h.num hn, Nat.lt_of_le_of_lt h.den hd⟩
theorem fitsR.bd {x : Rat} (h : fitsR x) : bdR (10 ^ 400) (10 ^ 400) x := ⟨Nat.le_of_lt h.1, Nat.le_of_lt h.2⟩

/-! ### Operations on texts -/
noncomputable def op2 (F : Rat → Rat → Option Rat) (a b : Txt) : Option Txt := match rdR a, rdR b with
  | some x, some y => (F x y).bind wrR
  | _, _ => none
noncomputable def addT := op2 fun x y => some (x + y)
noncomputable def subT := op2 fun x y => some (x - y)
noncomputable def mulT := op2 fun x y => some (x * y)
noncomputable def divT := op2 fun x y => if y = 0 then none else some (x / y)
noncomputable def cmpT (a b : Txt) : Int := match rdR a, rdR b with
  | some x, some y => sgnR (x - y)
  | _, _ => 0
def ofT (num den : Int) : Option Txt := if den = 0 then none else wrR (ratP (decide (num < 0) != decide (den < 0)) num.natAbs den.natAbs)

/-- The integers next to a fraction's multiple; none: out of range. -/
def scaleR (x : Rat) (u : Nat) : Option (Int × Int) :=
  let q := x.num.natAbs * u / x.den
  let up := if x.num.natAbs * u % x.den = 0 then q else q + 1
  if 2305843009213693952 < up then none else if x.num < 0 then some (-(up : Int), -(q : Int)) else some ((q : Int), (up : Int))
noncomputable def scaleT (a : Txt) (u : Int) : Option (Int × Int) := match rdR a with
  | some x => if u < 1 then none else scaleR x u.toNat
  | none => none

theorem rd_txt {x : Rat} (h : fitsR x) : rdR (txt x) = some x := rdR_some.2 ⟨h, rfl⟩
theorem wr_txt {x : Rat} (h : fitsR x) : wrR x = some (txt x) := wrR_some.2 ⟨h, rfl⟩
theorem op2_txt {F : Rat → Rat → Option Rat} {x y : Rat} (hx : fitsR x) (hy : fitsR y) : op2 F (txt x) (txt y) = (F x y).bind wrR := by unfold op2; rw [rd_txt hx, rd_txt hy]
end Go.Proofs.YtpligjkbnlfhgaaDoor
