/- Long numbers: trim, both texts. -/
import Derived.Test.YtpligjkbnlfhgaaDoorDigM
namespace Go.Proofs.YtpligjkbnlfhgaaDoor
open Go.RowKit

theorem natV_trim {B : Nat} {w : World} {A : Option Addr} {n m c : Nat} {f : Nat → Nat} (hc : n ≤ c) (hcm : c ≤ maxLen) (h : RdD w A n f) (hf : ∀ i, i < n → f i < B) (hm : m ≤ n) (hz : ∀ i, m ≤ i → i < n → f i = 0) (ht : m ≠ 0 → f (m - 1) ≠ 0) : NatV B w (.slice A m c) (nv B f n) := by
  obtain ⟨h1, h2⟩ := trim_dig hf hm hz ht
  exact ⟨A, m, c, f, rfl, by omega, hcm, h.le hm, h1, h2⟩

set_option maxHeartbeats 1000000 in
theorem trim115 (B : Nat) (A : Option Addr) (n c : Nat) (f : Nat → Nat) (w : World) (hc : n ≤ c) (hcm : c ≤ maxLen) (h : RdD w A n f) (hf : ∀ i, i < n → f i < B) :
    Calls Tryd.prog 115 #[.slice A n c] w fun e w' => ∃ v, e = .returned v ∧ NatV B w v (nv B f n) ∧ w = w' := by
  unfold maxLen at hcm
  have HF := Lib.hid hf
  clear hf
  go_enter Tryd.func115, Tryd.ntmps115
  go_wp2_with fail
  go_loopg [0] n (fun m v wr => ∃ k : Nat, k ≤ n ∧ m = k ∧ v = .slice A k c ∧ (∀ i, k ≤ i → i < n → f i = 0) ∧ w = wr)
  case atStart => exact ⟨n, Nat.le_refl _, rfl, rfl, fun i h1 h2 => by omega, rfl⟩
  case round =>
    obtain ⟨k, hk, hm, rfl, hz, rfl⟩ := hrel
    have HM := Lib.hid hm
    have HZ := Lib.hid hz
    clear hm hz
    cases k with
    | zero =>
      go_wp2_with fail
      go_ret
      exact ⟨_, rfl, natV_trim hc (by unfold maxLen; exact hcm) h HF.out (Nat.zero_le _) HZ.out (fun h => absurd rfl h), rfl⟩
    | succ k =>
      obtain ⟨b, off, rfl, hb, hcell⟩ := h (by omega)
      have v0 := hcell k (by omega)
      clear hcell
      by_cases h0 : f k = 0
      · have t : (((f k : Nat) : Int) == 0) = true := by rw [h0]; rfl
        have H0 := Lib.hid h0
        clear h0
        go_wp2_with fail
        go_roundg k
        case measure => have := HM.out; omega
        case rel => exact ⟨k, by omega, rfl, rfl, fun i h1 h2 => if e : i = k then e ▸ H0.out else HZ.out i (by omega) h2, rfl⟩
      · have t : (((f k : Nat) : Int) == 0) = false := by rw [beq_eq_false_iff_ne]; omega
        have H0 := Lib.hid h0
        clear h0
        go_wp2_with fail
        go_ret
        exact ⟨_, rfl, natV_trim hc (by unfold maxLen; exact hcm) h HF.out hk HZ.out (fun _ => H0.out), rfl⟩

set_option maxHeartbeats 1000000 in
theorem trim142 (B : Nat) (A : Option Addr) (n c : Nat) (f : Nat → Nat) (w : World) (hc : n ≤ c) (hcm : c ≤ maxLen) (h : RdD w A n f) (hf : ∀ i, i < n → f i < B) :
    Calls Tryd.prog 142 #[.slice A n c] w fun e w' => ∃ m, e = .returned (.slice A m c) ∧ NatV B w (.slice A m c) (nv B f n) ∧ w = w' := by
  unfold maxLen at hcm
  have HF := Lib.hid hf
  clear hf
  go_enter Tryd.func142, Tryd.ntmps142
  go_wp2_with fail
  go_loopg [3] n (fun m v wr => ∃ k : Nat, k ≤ n ∧ m = k ∧ v = .int .i64 k ∧ (∀ i, k ≤ i → i < n → f i = 0) ∧ w = wr)
  case atStart => exact ⟨n, Nat.le_refl _, rfl, rfl, fun i h1 h2 => by omega, rfl⟩
  case round =>
    obtain ⟨k, hk, hm, rfl, hz, rfl⟩ := hrel
    have HM := Lib.hid hm
    have HZ := Lib.hid hz
    clear hm hz
    cases k with
    | zero =>
      go_wp2_with fail
      go_ret
      exact ⟨_, rfl, natV_trim hc (by unfold maxLen; exact hcm) h HF.out (Nat.zero_le _) HZ.out (fun h => absurd rfl h), rfl⟩
    | succ k =>
      obtain ⟨b, off, rfl, hb, hcell⟩ := h (by omega)
      have v0 := hcell k (by omega)
      clear hcell
      by_cases h0 : f k = 0
      · have t : (((f k : Nat) : Int) == 0) = true := by rw [h0]; rfl
        have H0 := Lib.hid h0
        clear h0
        go_wp2_with fail
        go_roundg k
        case measure => have := HM.out; omega
        case rel => exact ⟨k, by omega, rfl, by go_num, fun i h1 h2 => if e : i = k then e ▸ H0.out else HZ.out i (by omega) h2, rfl⟩
      · have t : (((f k : Nat) : Int) == 0) = false := by rw [beq_eq_false_iff_ne]; omega
        have H0 := Lib.hid h0
        clear h0
        go_wp2_with fail
        go_ret
        exact ⟨_, rfl, natV_trim hc (by unfold maxLen; exact hcm) h HF.out hk HZ.out (fun _ => H0.out), rfl⟩

/-- A value that reads as a number, in a block from H on. -/
def NatN (B H : Nat) (w : World) (v : Value) (x : Nat) : Prop := NatV B w v x ∧ ∀ g, v.ownBlock = some g → H ≤ g
theorem fresh_at {H g m c : Nat} (h : H ≤ g) : ∀ k, (Value.slice (some ⟨g, 0, none⟩) m c).ownBlock = some k → H ≤ k := fun k hk => by
  injection hk with hk; subst hk; exact h

/-! ### Digits of 64 bits -/
theorem infoU : (Tryd.prog.info? 90).map (fun i => (i.zero, i.size, i.bytes)) = some (some (.int .u32 0), 1, 4) := by kernel_rfl
end Go.Proofs.YtpligjkbnlfhgaaDoor
