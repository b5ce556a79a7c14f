/- The two functions Of tell the same, and what they tell is valid; small contracts for the laws of chapter 39. -/
import Derived.Test.YtgonighpjpfmnaaScoreAll2
import Derived.Test.YtgonighpjpfmnaaLaw39a
import Derived.Test.YtgonighpjpfmnaaScoreValid
namespace Go.Proofs.Ytgonighpjpfmnaa
open Go.RowKit

theorem ofR_valid {f : Nat → Smp} {n : Nat} {k c t cap : Int} {adj : Bool} {x y z : Int} (h : ofR f n k c t cap adj = some (x, y, z)) : vldS x y z = true := by
  unfold ofR at h
  split at h
  · rename_i hc
    obtain ⟨h0, h1, hv, h2, h3, hok⟩ := hc
    obtain ⟨k, rfl⟩ := Int.eq_ofNat_of_zero_le h0
    rw [Int.toNat_natCast] at hok h
    have hvv : 1 ≤ c ∧ c ≤ 10000 ∧ 1 ≤ t ∧ t ≤ 10000 := by simpa [vldWI, and_assoc] using hv
    have hk : k < n := by omega
    have hy := okV_at hok (show k < k + 1 by omega)
    have hp : ∀ arm, 0 ≤ (if adj then predT f n k arm cap else 0) ∧ (if adj then predT f n k arm cap else 0) ≤ cap := fun arm => by
      have := predI_bd f cap k arm (by omega) (okV_mono (k + 1) (by omega) hok)
      cases adj
      · simp; omega
      · simpa [predT, hk] using this
    have hp1 := hp 1
    have hp2 := hp 2
    simp only at h
    generalize (if adj then predT f n k 1 cap else 0) = p1 at hp1 h
    generalize (if adj then predT f n k 2 cap else 0) = p2 at hp2 h
    generalize (f k).value = v at hy h
    have hm : 1 ≤ max c t ∧ max c t ≤ 10000 := by omega
    have hct : 1 ≤ c * t ∧ c * t ≤ 100000000 := by
      have a1 := Int.mul_le_mul hvv.1 hvv.2.2.1 (by omega) (by omega)
      have a2 := Int.mul_le_mul hvv.2.1 hvv.2.2.2 (by omega) (by omega)
      omega
    have hcm : (c + t) * max c t ≤ 200000000 := by
      have := Int.mul_le_mul (show c + t ≤ 20000 by omega) hm.2 (by omega) (by omega); omega
    have hcm0 : 0 ≤ (c + t) * max c t := Int.mul_nonneg (by omega) (by omega)
    have hu : 1 ≤ c * t * cap := by have := Int.mul_le_mul hct.1 h2 (by omega) (by omega); omega
    have e1 : cap * (2 * (c * t) + (c + t) * max c t) = c * t * cap + (c * t * cap + (c + t) * max c t * cap) := by grind
    have hM : 0 ≤ (c + t) * max c t * cap := Int.mul_nonneg hcm0 (by omega)
    have hr : cap * (2 * (c * t) + (c + t) * max c t) ≤ 562949953421312 := by
      have := Int.mul_le_mul h3 (show 2 * (c * t) + (c + t) * max c t ≤ 400000000 by omega) (by omega) (by omega); omega
    have b1 : -(c * t * cap) ≤ c * t * (p2 - p1) ∧ c * t * (p2 - p1) ≤ c * t * cap := mul_bd (a := c * t) (b := p2 - p1) (A := c * t) (B := cap) (by omega) (by omega) (by omega) (by omega)
    have side : ∀ u, 1 ≤ u → u ≤ max c t → ∀ p, 0 ≤ p → p ≤ cap → -((c + t) * max c t * cap) ≤ (c + t) * u * (v - p) ∧ (c + t) * u * (v - p) ≤ (c + t) * max c t * cap := fun u hu1 hu2 p hp0 hp1 => by
      have h1 : (c + t) * u ≤ (c + t) * max c t := Int.mul_le_mul_of_nonneg_left hu2 (by omega)
      have h0 : 0 ≤ (c + t) * u := Int.mul_nonneg (by omega) (by omega)
      exact mul_bd (a := (c + t) * u) (b := v - p) (A := (c + t) * max c t) (B := cap) (by omega) (by omega) (by omega) (by omega)
    split at h
    · injection h with h
      simp only [Prod.mk.injEq] at h
      obtain ⟨rfl, rfl, rfl⟩ := h
      have s := side t (by omega) (by omega) p1 hp1.1 hp1.2
      simp only [vldS, Bool.and_eq_true, decide_eq_true_eq]
      omega
    · split at h
      · injection h with h
        simp only [Prod.mk.injEq] at h
        obtain ⟨rfl, rfl, rfl⟩ := h
        have s := side c (by omega) (by omega) p2 hp2.1 hp2.2
        simp only [vldS, Bool.and_eq_true, decide_eq_true_eq]
        omega
      · cases h
  · cases h

def TupPost (x y z : Int) (b : Bool) (w : World) (e : Ending) (w' : World) : Prop := e = .returned (.tuple #[.agg #[.int .i64 x, .int .i64 y, .int .i64 z], .bool b]) ∧ Below w.heap.size w w'

theorem of_both (n cp : Nat) (f : Nat → Smp) (k v c t cap : Int) (adj : Bool) (hn : n ≤ 1048576) (hnc : n ≤ cp) (hin : InSmp f n) : ∃ x y z b,
    (∀ A w, RowsAt w w.heap.size 10 A n (fun i => (f i).cells) → Calls Try.prog 38 #[.slice A n cp, .int .i64 k, .agg #[.int .i64 v, .int .i64 c, .int .i64 t], .int .i64 cap, .bool adj] w (fun e w' => e = .returned (.tuple #[.agg #[.int .i64 x, .int .i64 y, .int .i64 z], .bool b]) ∧ Below w.heap.size w w')) ∧
    (∀ A w, RowsAt w w.heap.size 10 A n (fun i => (f i).cells) → Calls Try.prog 39 #[.slice A n cp, .int .i64 k, .agg #[.int .i64 v, .int .i64 c, .int .i64 t], .int .i64 cap, .bool adj] w (fun e w' => e = .returned (.tuple #[.agg #[.int .i64 x, .int .i64 y, .int .i64 z], .bool b]) ∧ Below w.heap.size w w')) ∧
    (b = true → vldS x y z = true) ∧ (-9223372036854775808 ≤ y ∧ z ≤ 9223372036854775807) := by
  cases hr : ofR f n k c t cap adj with
  | none =>
    refine ⟨0, 0, 0, false, fun A w hR => (of38 A n cp f k v c t cap adj w hn hnc hR hin).mono fun e w' h => h.none hr, fun A w hR => (of39 A n cp f k v c t cap adj w hn hnc hR hin).mono fun e w' h => h.none hr, (fun h => by cases h), by omega⟩
  | some s =>
    obtain ⟨x, y, z⟩ := s
    have hv := ofR_valid hr
    have hv' := hv
    simp only [vldS, Bool.and_eq_true, decide_eq_true_eq] at hv'
    exact ⟨x, y, z, true, fun A w hR => (of38 A n cp f k v c t cap adj w hn hnc hR hin).mono fun e w' h => h.some hr, fun A w hR => (of39 A n cp f k v c t cap adj w hn hnc hR hin).mono fun e w' h => h.some hr, fun _ => hv, by omega⟩

/-- Rows out of a block that holds a list. -/
theorem rows_of_flat {α : Type} {w : World} {g e size : Nat} {c : α → List Value} {L : List α} (hc : ∀ a, (c a).length = size) (d : α) (hg : w.heap[g]? = some (.cells (L.flatMap c).toArray e (0, 0))) : RowsAt w w.heap.size size (some ⟨g, 0, none⟩) L.length (fun i => c (L.getD i d)) :=
  rows_of_block hg fun i hi j u hj => by
    rw [List.getElem?_toArray]
    exact (flat_get c size hc L i j _ (by rw [List.getElem?_eq_getElem hi, List.getD_eq_getElem?_getD, List.getElem?_eq_getElem hi]; rfl) (by have := (List.getElem?_eq_some_iff.1 hj).1; rw [hc] at this; exact this)).trans hj

theorem RowsAt.at {w : World} {B size g off n : Nat} {f : Nat → List Value} (h : RowsAt w B size (some ⟨g, off, none⟩) n f) {i j : Nat} (hi : i < n) {u : Value} (hu : (f i)[j]? = some u) : w.cell? ⟨g, off + i * size + j, none⟩ = some u := by
  obtain ⟨b, o, he, _, hc⟩ := h (by omega)
  injection he with he
  injection he with h1 h2
  subst h1; subst h2
  exact hc i hi j u hu
theorem RowsAt.lt {w : World} {B size g off n : Nat} {f : Nat → List Value} (h : RowsAt w B size (some ⟨g, off, none⟩) n f) (hn : 0 < n) : g < B := by
  obtain ⟨b, o, he, hb, _⟩ := h hn
  injection he with he
  injection he with h1 h2
  subst h1; exact hb

/-- Two lists in memory that are the same. -/
theorem same41 (A1 A2 : Option Addr) (n c1 c2 : Nat) (f : Nat → Scr) (w : World) (hn : n ≤ 1048576) (h1 : RowsAt w w.heap.size 3 A1 n fun i => (f i).cells) (h2 : RowsAt w w.heap.size 3 A2 n fun i => (f i).cells) :
    Calls Try.prog 41 #[.slice A1 n c1, .slice A2 n c2] w fun e w' => e = .returned (.bool true) ∧ Below w.heap.size w w' := by
  go_enter Try.func41, Try.ntmps41
  go_wp2_with fail
  go_loopg [5] n (fun m i wr => ∃ j : Nat, j ≤ n ∧ m = n - j ∧ i = .int .i64 j ∧ Below w.heap.size w wr)
  case atStart => exact ⟨0, Nat.zero_le _, by omega, rfl, Below.refl _ _⟩
  case round =>
    obtain ⟨j, hj, hm, rfl, hb⟩ := hrel
    have HM := Lib.hid hm
    clear hm
    by_cases hjn : j < n
    · obtain ⟨b, off, rfl, _, hc⟩ := h1.below hb (Nat.le_refl _) (by omega)
      obtain ⟨b', off', rfl, _, hc'⟩ := h2.below hb (Nat.le_refl _) (by omega)
      have v0 := hc j hjn 0 _ rfl
      have v1 := hc j hjn 1 _ rfl
      have v2 := hc j hjn 2 _ rfl
      have u0 := hc' j hjn 0 _ rfl
      have u1 := hc' j hjn 1 _ rfl
      have u2 := hc' j hjn 2 _ rfl
      simp only [Nat.add_zero] at v0 u0
      clear hc hc' h1 h2
      go_wp2_with fail
      go_quiet (fail)
      go_wp2_with fail
      go_roundg (n - (j + 1))
      case measure => have := HM.out; omega
      case rel => exact ⟨j + 1, by omega, rfl, by go_num, below_drewN hb _⟩
    · go_wp2_with fail
      go_ret
      exact ⟨rfl, hb⟩

theorem weights40 (a b c d : Int) (w : World) (ha : 0 ≤ a ∧ a ≤ 255) (hb : 0 ≤ b ∧ b ≤ 255) (hc : 0 ≤ c ∧ c ≤ 255) (hd : 0 ≤ d ∧ d ≤ 255) :
    Calls Try.prog 40 #[.int .u8 a, .int .u8 b, .int .u8 c, .int .u8 d] w fun e w' => e = .returned (.slice (some ⟨w.heap.size, 0, none⟩) 2 2) ∧ w' = w.alloc (.cells #[.int .i64 1, .int .i64 (1 + a % 20), .int .i64 (1 + b % 20), .int .i64 2, .int .i64 (1 + c % 20), .int .i64 (1 + d % 20)] 42) := by
  go_enter Try.func40, Try.ntmps40
  go_wp2_with fail
  go_ret
  exact ⟨rfl, rfl⟩
end Go.Proofs.Ytgonighpjpfmnaa
