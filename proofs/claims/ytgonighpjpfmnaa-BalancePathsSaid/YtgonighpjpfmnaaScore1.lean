/- Contracts of small functions of the packages score and flagstoneref39: Class, floor, Predict, the methods of weights. -/
import Derived.Test.YtgonighpjpfmnaaBase
namespace Go.Proofs.Ytgonighpjpfmnaa
open Go.RowKit

/-- A sample, as its ten cells. -/
structure Smp where
  id : ByteArray
  client : ByteArray
  seq : Int
  time : Int
  arm : Int
  version : Int
  value : Int
  below : Int
  before : Int
  mixed : Bool

def Smp.cells (s : Smp) : List Value := [.string s.id, .string s.client, .int .i64 s.seq, .int .i64 s.time, .int .i64 s.arm, .int .i64 s.version, .int .i64 s.value, .int .i64 s.below, .int .i64 s.before, .bool s.mixed]

def clsI (b : Int) : Int := Lib.bitLen (max b 0).toNat

theorem class32 (b : Int) (w : World) (h : -9223372036854775808 ≤ b) (h' : b ≤ 9223372036854775807) :
    Calls Try.prog 32 #[.int .i64 b] w fun e w' => e = .returned (.int .i64 (clsI b)) ∧ w = w' := by
  go_enter Try.func32, Try.ntmps32
  go_wp2_with (go_at_call 80; refine (Try.bits_Len _ _ ?_ ?_).mono ?_ ; omega; omega; rintro e w' ⟨rfl, rfl⟩)
  go_ret
  exact ⟨rfl, rfl⟩

theorem aux_half : ∀ (k n : Nat), n < 2 ^ k → 0 < n → Lib.bitLenAux k n = Lib.bitLenAux k (n / 2) + 1
  | 0, n, h, h0 => by simp at h; omega
  | k + 1, n, h, h0 => by
    have hk : n / 2 < 2 ^ k := by rw [Nat.pow_succ] at h; omega
    rw [Lib.bitLenAux, if_neg (by omega), Lib.bitLenAux]
    by_cases h2 : n / 2 = 0
    · rw [if_pos h2, h2]
      cases k with
      | zero => rfl
      | succ k => rw [Lib.bitLenAux, if_pos rfl]
    · rw [if_neg h2, aux_half k (n / 2) hk (by omega)]
      omega
theorem aux_le : ∀ (k n : Nat), Lib.bitLenAux k n ≤ k
  | 0, n => Nat.le_refl _
  | k + 1, n => by
    rw [Lib.bitLenAux]
    split
    · omega
    · have := aux_le k (n / 2); omega
theorem bitLen_half (n : Nat) (h : n < 18446744073709551616) (h0 : 0 < n) : Lib.bitLen n = Lib.bitLen (n / 2) + 1 := aux_half 64 n h h0
theorem bitLen_zero : Lib.bitLen 0 = 0 := rfl
theorem bitLen_le (n : Nat) : Lib.bitLen n ≤ 64 := aux_le 64 n

theorem clsI_half (c : Int) (h : 0 < c) (h' : c ≤ 9223372036854775807) : clsI c = clsI (c / 2) + 1 := by
  unfold clsI
  rw [bitLen_half (max c 0).toNat (by omega) (by omega)]
  have : (max c 0).toNat / 2 = (max (c / 2) 0).toNat := by omega
  rw [this]
  omega
theorem clsI_zero (c : Int) (h : c ≤ 0) : clsI c = 0 := by
  unfold clsI
  rw [show (max c 0).toNat = 0 from by omega, bitLen_zero]
  rfl
theorem clsI_bd (c : Int) : 0 ≤ clsI c ∧ clsI c ≤ 64 := by
  unfold clsI
  have := bitLen_le (max c 0).toNat
  omega

set_option maxHeartbeats 1000000 in
theorem class33 (b : Int) (w : World) (h : -9223372036854775808 ≤ b) (h' : b ≤ 9223372036854775807) :
    Calls Try.prog 33 #[.int .i64 b] w fun e w' => e = .returned (.int .i64 (clsI b)) ∧ w = w' := by
  go_enter Try.func33, Try.ntmps33
  go_wp2
  go_loop [0, 3] (fun x y => ∃ (c k : Int), x = .int .i64 c ∧ y = .int .i64 k ∧ c ≤ b ∧ -9223372036854775808 ≤ c ∧ 0 ≤ k ∧ k + clsI c = clsI b) (fun x _ => (intOf x).toNat)
  case atStart => exact ⟨b, 0, rfl, rfl, by omega, by omega, by omega, by omega⟩
  case round =>
    obtain ⟨c, k, rfl, rfl, h1, h2, h3, h4⟩ := hrel
    have hb := clsI_bd b
    have hc := clsI_bd c
    by_cases hp : 0 < c
    · have hh := clsI_half c hp (by omega)
      have hh2 := clsI_bd (c / 2)
      have H4 := Lib.hid h4
      have Hh := Lib.hid hh
      have hk : k ≤ 64 := by omega
      clear h4 hh
      go_wp2
      go_round
      case measure => simp [intOf]; omega
      case rel => exact ⟨c / 2, k + 1, rfl, rfl, by omega, by omega, by omega, by have := H4.out; have := Hh.out; omega⟩
    · have hh := clsI_zero c (by omega)
      have hfin : k = clsI b := by omega
      have Hfin := Lib.hid hfin
      clear h4 hh hfin
      go_wp2
      go_ret
      exact ⟨by rw [← Hfin.out]; rfl, rfl⟩

theorem tdiv_floor (a b : Int) (hb : 0 < b) : (a.tmod b < 0 → a.tdiv b - 1 = a / b) ∧ (¬ a.tmod b < 0 → a.tdiv b = a / b) := by
  have h2 : 0 ≤ a % b := Int.emod_nonneg _ (by omega)
  have h3 : a % b < b := Int.emod_lt_of_pos _ hb
  have h4 := Int.mul_tdiv_add_tmod a b
  have h5 := Int.mul_ediv_add_emod a b
  have h8 := Int.tdiv_eq_ediv (a := a) (b := b)
  rw [Int.sign_eq_one_of_pos hb] at h8
  split at h8
  · rw [Int.add_zero] at h8
    rw [h8] at h4
    constructor
    · intro; omega
    · intro; exact h8
  · rw [h8, Int.mul_add, Int.mul_one] at h4
    constructor
    · intro; omega
    · intro; omega

theorem floor_bd (a b : Int) (hb : 0 < b) (ha : -4611686018427387904 < a) (ha' : a < 4611686018427387904) : -4611686018427387904 ≤ a.tdiv b ∧ a.tdiv b ≤ 4611686018427387904 := by
  have h := tdiv_floor a b hb
  have h5 := Int.mul_ediv_add_emod a b
  have h2 : 0 ≤ a % b := Int.emod_nonneg _ (by omega)
  have h3 : a % b < b := Int.emod_lt_of_pos _ hb
  have h6 : -4611686018427387904 ≤ a / b := by rw [Int.le_ediv_iff_mul_le hb]; omega
  have h7 : a / b < 4611686018427387904 := by rw [Int.ediv_lt_iff_lt_mul hb]; omega
  by_cases h0 : a.tmod b < 0
  · have := h.1 h0; omega
  · have := h.2 h0; omega

theorem floor81 (a b : Int) (w : World) (hb : 0 < b) (hb2 : b < 4611686018427387904) (ha : -4611686018427387904 < a) (ha' : a < 4611686018427387904) :
    Calls Try.prog 81 #[.int .i64 a, .int .i64 b] w fun e w' => e = .returned (.int .i64 (a / b)) ∧ w = w' := by
  have hbd := floor_bd a b hb ha ha'
  have hf := Lib.hid (tdiv_floor a b hb)
  by_cases h0 : a.tmod b < 0
  all_goals
    go_enter Try.func81, Try.ntmps81
    go_wp2
    go_ret
    exact ⟨ret_int (by have := hf.out; omega), rfl⟩

theorem floor82 (a b : Int) (w : World) (hb : 0 < b) (hb2 : b < 4611686018427387904) (ha : -4611686018427387904 < a) (ha' : a < 4611686018427387904) :
    Calls Try.prog 82 #[.int .i64 a, .int .i64 b] w fun e w' => e = .returned (.int .i64 (a / b)) ∧ w = w' := by
  have hbd := floor_bd a b hb ha ha'
  have hf := Lib.hid (tdiv_floor a b hb)
  by_cases h0 : a.tmod b < 0
  all_goals
    go_enter Try.func82, Try.ntmps82
    go_wp2
    go_ret
    exact ⟨ret_int (by have := hf.out; omega), rfl⟩

def vldWI (c t : Int) : Bool := decide (1 ≤ c) && decide (c ≤ 10000) && decide (1 ≤ t) && decide (t ≤ 10000)

theorem valid83 (c t : Int) (w : World) : Calls Try.prog 83 #[.agg #[.int .i64 c, .int .i64 t]] w fun e w' => e = .returned (.bool (vldWI c t)) ∧ Below w.heap.size w w' := by
  go_enter Try.func83, Try.ntmps83
  go_wp2
  all_goals
    go_ret
    exact ⟨ret_bool (by rw [Bool.eq_iff_iff]; simp [vldWI]; omega), (Below.refl _ _).alloc (Nat.le_refl _) _⟩

theorem product84 (c t : Int) (w : World) (hc : 1 ≤ c) (hc' : c ≤ 10000) (ht : 1 ≤ t) (ht' : t ≤ 10000) : Calls Try.prog 84 #[.agg #[.int .i64 c, .int .i64 t]] w fun e w' => e = .returned (.int .i64 (c * t)) ∧ Below w.heap.size w w' := by
  have h1 : 1 ≤ c * t := by have := Int.mul_le_mul hc ht (by omega) (by omega); omega
  have h2 : c * t ≤ 100000000 := by have := Int.mul_le_mul hc' ht' (by omega) (by omega); omega
  go_enter Try.func84, Try.ntmps84
  go_wp2
  go_ret
  exact ⟨rfl, (Below.refl _ _).alloc (Nat.le_refl _) _⟩

theorem sum85 (c t : Int) (w : World) (hc : 1 ≤ c) (hc' : c ≤ 10000) (ht : 1 ≤ t) (ht' : t ≤ 10000) : Calls Try.prog 85 #[.agg #[.int .i64 c, .int .i64 t]] w fun e w' => e = .returned (.int .i64 (c + t)) ∧ Below w.heap.size w w' := by
  go_enter Try.func85, Try.ntmps85
  go_wp2
  go_ret
  exact ⟨rfl, (Below.refl _ _).alloc (Nat.le_refl _) _⟩

/-- A valid score. -/
def vldS (n u r : Int) : Bool := decide (1 ≤ u) && decide (u ≤ r) && decide (r ≤ 562949953421312) && decide (u - r ≤ n) && decide (n ≤ r - u)

theorem valid36 (n u r : Int) (w : World) (hu : -9223372036854775808 ≤ u) (hr : r ≤ 9223372036854775807) :
    Calls Try.prog 36 #[.agg #[.int .i64 n, .int .i64 u, .int .i64 r]] w fun e w' => e = .returned (.bool (vldS n u r)) ∧ Below w.heap.size w w' := by
  go_enter Try.func36, Try.ntmps36
  go_wp2
  all_goals
    go_ret
    exact ⟨ret_bool (by rw [Bool.eq_iff_iff]; simp [vldS]; omega), (Below.refl _ _).alloc (Nat.le_refl _) _⟩

theorem valid37 (n u r : Int) (w : World) (hu : -9223372036854775808 ≤ u) (hr : r ≤ 9223372036854775807) :
    Calls Try.prog 37 #[.agg #[.int .i64 n, .int .i64 u, .int .i64 r]] w fun e w' => e = .returned (.bool (vldS n u r)) ∧ Below w.heap.size w w' := by
  go_enter Try.func37, Try.ntmps37
  go_wp2
  all_goals
    go_ret
    exact ⟨ret_bool (by rw [Bool.eq_iff_iff]; simp [vldS]; omega), (Below.refl _ _).alloc (Nat.le_refl _) _⟩

end Go.Proofs.Ytgonighpjpfmnaa
