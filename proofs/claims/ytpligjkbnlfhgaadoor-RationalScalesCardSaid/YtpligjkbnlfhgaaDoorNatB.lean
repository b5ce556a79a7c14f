/- Long numbers: digits of 64 bits, both texts. -/
import Derived.Test.YtpligjkbnlfhgaaDoorNatA
namespace Go.Proofs.YtpligjkbnlfhgaaDoor
open Go.RowKit

theorem OwnD.nat {E : TypeId} {w : World} {B : Nat} {v : Value} {L : List Nat} {Bs : Nat} (h : OwnD E w B v L) (hd : Dig Bs (dl L) L.length) : NatV Bs w v (nv Bs (dl L) L.length) := by
  obtain ⟨A, cap, rfl, hc, hm⟩ := h.shape
  exact ⟨A, L.length, cap, dl L, rfl, hc, hm, h.rd.2, hd, rfl⟩

def room (x k : Nat) : Prop := k ≤ 64 ∧ x < 2 ^ (64 - k)
theorem room.step {x k B : Nat} (hB : 2 ≤ B) (h : room x k) (hx : 0 < x) : room (x / B) (k + 1) := by
  obtain ⟨h1, h2⟩ := h
  have hk : k < 64 := by
    refine Decidable.byContradiction fun hc => ?_
    rw [show 64 - k = 0 by omega] at h2
    omega
  refine ⟨hk, Nat.div_lt_of_lt_mul ?_⟩
  rw [show 64 - k = 64 - (k + 1) + 1 by omega, Nat.pow_succ] at h2
  have : 2 * 2 ^ (64 - (k + 1)) ≤ B * 2 ^ (64 - (k + 1)) := Nat.mul_le_mul_right _ hB
  omega

set_option maxHeartbeats 1000000 in
theorem natOf62 (N : Nat) (w : World) (hN : N < 18446744073709551616) :
    Calls Tryd.prog 62 #[.int .u64 N] w fun e w' => ∃ v, e = .returned v ∧ NatV 1000000000 w' v N ∧ Below w.heap.size w w' := by
  obtain ⟨i0, hi, hz0, hz1, hz2⟩ := info_parts infoU
  have hroom : room N 0 := ⟨by omega, by simpa using hN⟩
  have HR := Lib.hid hroom
  clear hroom
  go_enter Tryd.func62, Tryd.ntmps62
  go_wp2_with fail
  go_loopg [0, 3] N (fun m n v wr => ∃ (x : Nat) (X : Int) (L : List Nat), m = x ∧ X = x ∧ n = .int .u64 X ∧ x < 18446744073709551616 ∧ OwnD 90 wr w.heap.size v L ∧ NatI 1000000000 (dl L) L.length x N ∧ room x L.length ∧ Below w.heap.size w wr)
  case atStart => exact ⟨N, N, [], rfl, rfl, rfl, hN, OwnD.nil, NatI.start, HR.out, Below.refl _ _⟩
  case round =>
    obtain ⟨x, X, L, hm, hX, rfl, hx, hown, hI, hr, hb⟩ := hrel
    have hX0 : 0 ≤ X ∧ X < 18446744073709551616 := by omega
    have HM := Lib.hid hm
    have HX := Lib.hid hX
    clear hm hX
    by_cases h0 : x = 0
    · have d0 : X = 0 := by have := HX.out; omega
      subst d0
      subst h0
      go_wp2_with fail
      go_ret
      obtain ⟨k1, k2⟩ := hI.done
      have := hown.nat k1
      rw [k2] at this
      exact ⟨_, rfl, this, hb⟩
    · have d0 : 0 < X := by have := HX.out; omega
      have hI2 := hI.step (by omega) (show 0 < x by omega)
      have hr2 := hr.step (B := 1000000000) (by omega) (show 0 < x by omega)
      have hl := hr.1
      obtain ⟨A, cap, rfl, hcap⟩ := hown.shape
      have e1 : IntKind.u32.wrap (X % 1000000000) = X % 1000000000 := IntWalk.u32_in _ (by omega)
      have e2 : X % 1000000000 = ((x % 1000000000 : Nat) : Int) := by have := HX.out; omega
      have E2 := Lib.hid e2
      have HR2 := Lib.hid hr2
      clear e2 hr2 h0
      have hHw : w.heap.size ≤ wr.heap.size := hb.size
      go_wp2_with (at_builtin; refine wpList_append_lies _ (by rfl) (.tmp 8) (.tmp 12) 80 (by rfl) w.heap.size 90 i0 _ 1 4 Tryd.underlying80 hi hz0 hz1 hz2 rfl (by omega) _ _ _ (by rfl) (World.ownsRow.alloc hown _) ⟨wr.heap.size, 0, none⟩ 1 1 [.int .u32 (X % 1000000000)] (by rfl) (by rfl) (World.news_of_block (heap_alloc_new wr _)) (by simp [Value.oneCell']) (by omega) (by unfold maxLen; omega) (by omega) (by simp; omega) (wr.heap.size + 1) (by simp) ?_; intro g' cap' w6 hown6 hgrow hat hlt6)
      rw [E2.out] at hown6
      have ho : OwnD 90 w6 w.heap.size (.slice (some ⟨g', 0, none⟩) (L.length + 1) cap') (L ++ [x % 1000000000]) := OwnD.snoc hown6
      have hb6 : Below w.heap.size w w6 := (hb.alloc hb.size _).grown hgrow (by simp; omega) (fun q hq => (World.ownsRow.lt hown q hq).1)
      clear hown6 hgrow hat hown
      go_wp2_with fail
      go_roundg (x / 1000000000)
      case measure => have := HM.out; have := HX.out; omega
      case rel => exact ⟨x / 1000000000, X / 1000000000, L ++ [x % 1000000000], rfl, by have := HX.out; omega, rfl, by omega, ho, by rw [dl_snoc]; simpa using hI2, by simpa using HR2.out, hb6⟩

set_option maxHeartbeats 1000000 in
theorem natural122 (N : Nat) (w : World) (hN : N < 18446744073709551616) :
    Calls Tryd.prog 122 #[.int .u64 N] w fun e w' => ∃ v, e = .returned v ∧ NatV 4294967296 w' v N ∧ Below w.heap.size w w' := by
  obtain ⟨X, hX⟩ : ∃ X : Int, X = N := ⟨_, rfl⟩
  rw [← hX]
  have hX0 : 0 ≤ X ∧ X < 18446744073709551616 := by omega
  have e1 : IntKind.u32.wrap X = X % 4294967296 := IntKind.wrap_u32 _
  have e2 : IntKind.u32.wrap (X / 4294967296) = X / 4294967296 := IntWalk.u32_in _ (by omega)
  have e3 : X % 4294967296 = ((N % 4294967296 : Nat) : Int) ∧ X / 4294967296 = ((N / 4294967296 : Nat) : Int) := by omega
  have E3 := Lib.hid e3
  have hv : nv 4294967296 (dl [N % 4294967296, N / 4294967296]) 2 = N := by
    simp only [nv, dl, List.getD_cons_zero, List.getD_cons_succ]; omega
  have hd : ∀ i, i < 2 → dl [N % 4294967296, N / 4294967296] i < 4294967296 := fun i hi => by
    match i with
    | 0 => simp only [dl, List.getD_cons_zero]; omega
    | 1 => simp only [dl, List.getD_cons_zero, List.getD_cons_succ]; omega
  have HV := Lib.hid hv
  have HD := Lib.hid hd
  clear hv hd hX e3
  go_enter Tryd.func122, Tryd.ntmps122
  go_wp2_with fail
  have hblk := heap_alloc_new w (.cells #[.int .u32 (X % 4294967296), .int .u32 (X / 4294967296)] 90)
  have hbel : Below w.heap.size w (w.alloc (.cells #[.int .u32 (X % 4294967296), .int .u32 (X / 4294967296)] 90)) := (Below.refl _ _).alloc (Nat.le_refl _) _
  have hrd : RdD (w.alloc (.cells #[.int .u32 (X % 4294967296), .int .u32 (X / 4294967296)] 90)) (some ⟨w.heap.size, 0, none⟩) 2 (dl [N % 4294967296, N / 4294967296]) := fun _ => ⟨w.heap.size, 0, rfl, lt_of_blk hblk, fun i hi => by
    rw [cell_of_block hblk]
    match i with
    | 0 => rw [E3.out.1]; rfl
    | 1 => rw [E3.out.2]; rfl⟩
  refine (trim142 4294967296 (some ⟨w.heap.size, 0, none⟩) 2 2 _ _ (Nat.le_refl _) (by unfold maxLen; omega) hrd HD.out).mono ?_
  rintro e w1 ⟨v, rfl, hv, rfl⟩
  rw [HV.out] at hv
  go_wp2_with fail
  go_ret
  exact ⟨_, rfl, hv, hbel⟩

set_option maxHeartbeats 1000000 in
theorem digit143 (A : Option Addr) (n c i : Nat) (f : Nat → Nat) (w : World) (hc : n ≤ maxLen) (h : RdD w A n f) (hf : ∀ i, i < n → f i < 4294967296) (hi : i ≤ maxLen) :
    Calls Tryd.prog 143 #[.slice A n c, .int .i64 i] w fun e w' => e = .returned (.int .u64 (ext f n i)) ∧ w = w' := by
  unfold maxLen at hc hi
  by_cases hin : i < n
  · obtain ⟨b, off, rfl, hb, hcell⟩ := h (by omega)
    have v0 := hcell i hin
    have hx := hf i hin
    have e : ext f n i = f i := ext_lt hin
    have E := Lib.hid e
    clear hcell hf h e
    go_enter Tryd.func143, Tryd.ntmps143
    go_wp2_with fail
    go_ret
    exact ⟨by rw [E.out]; rfl, rfl⟩
  · have e : ext f n i = 0 := ext_ge (by omega)
    have E := Lib.hid e
    clear hf h e
    go_enter Tryd.func143, Tryd.ntmps143
    go_wp2_with fail
    go_ret
    exact ⟨by rw [E.out]; rfl, rfl⟩
end Go.Proofs.YtpligjkbnlfhgaaDoor
