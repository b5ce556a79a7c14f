/- Natural numbers in memory: the two texts' operations. No statement is proved here. -/
import Derived.Test.YtpligjkbnlfhgaaGreatDoorDigM
import Derived.OwnWalk
import Derived.Test.YtpligjkbnlfhgaaGreatDoorPl
import Derived.Deep.RegionWith
import Derived.StillTailTactics
import Derived.BigRegion
namespace Go.Proofs.YtpligjkbnlfhgaaGreatDoor
open Go.RowKit

theorem natV_trim {B : Nat} {w : World} {A : Option Addr} {n m c : Nat} {f : Nat → Nat} (hc : n ≤ c) (hcm : c ≤ maxLen) (h : RdD w A n f) (hf : ∀ i, i < n → f i < B) (hm : m ≤ n) (hz : ∀ i, m ≤ i → i < n → f i = 0) (ht : m ≠ 0 → f (m - 1) ≠ 0) : NatV B w (.slice A m c) (nv B f n) := by
  obtain ⟨h1, h2⟩ := trim_dig hf hm hz ht
  exact ⟨A, m, c, f, rfl, by omega, hcm, h.le hm, h1, h2⟩

set_option maxHeartbeats 1000000 in
theorem trim115 (B : Nat) (A : Option Addr) (n c : Nat) (f : Nat → Nat) (w : World) (hc : n ≤ c) (hcm : c ≤ maxLen) (h : RdD w A n f) (hf : ∀ i, i < n → f i < B) :
    Calls Tryz.prog 135 #[.slice A n c] w fun e w' => ∃ v, e = .returned v ∧ NatV B w v (nv B f n) ∧ w = w' := by
  unfold maxLen at hcm
  have HF := Lib.hid hf
  clear hf
  go_enter Tryz.func135, Tryz.ntmps135
  go_wp2_with fail
  go_loopg [0] n (fun m v wr => ∃ k : Nat, k ≤ n ∧ m = k ∧ v = .slice A k c ∧ (∀ i, k ≤ i → i < n → f i = 0) ∧ w = wr)
  case atStart => exact ⟨n, Nat.le_refl _, rfl, rfl, fun i h1 h2 => by omega, rfl⟩
  case round =>
    obtain ⟨k, hk, hm, rfl, hz, rfl⟩ := hrel
    have HM := Lib.hid hm
    have HZ := Lib.hid hz
    clear hm hz
    cases k with
    | zero =>
      go_wp2_with fail
      go_ret
      exact ⟨_, rfl, natV_trim hc (by unfold maxLen; exact hcm) h HF.out (Nat.zero_le _) HZ.out (fun h => absurd rfl h), rfl⟩
    | succ k =>
      obtain ⟨b, off, rfl, hb, hcell⟩ := h (by omega)
      have v0 := hcell k (by omega)
      clear hcell
      by_cases h0 : f k = 0
      · have t : (((f k : Nat) : Int) == 0) = true := by rw [h0]; rfl
        have H0 := Lib.hid h0
        clear h0
        go_wp2_with fail
        go_roundg k
        case measure => have := HM.out; omega
        case rel => exact ⟨k, by omega, rfl, rfl, fun i h1 h2 => if e : i = k then e ▸ H0.out else HZ.out i (by omega) h2, rfl⟩
      · have t : (((f k : Nat) : Int) == 0) = false := by rw [beq_eq_false_iff_ne]; omega
        have H0 := Lib.hid h0
        clear h0
        go_wp2_with fail
        go_ret
        exact ⟨_, rfl, natV_trim hc (by unfold maxLen; exact hcm) h HF.out hk HZ.out (fun _ => H0.out), rfl⟩

set_option maxHeartbeats 1000000 in
theorem trim142 (B : Nat) (A : Option Addr) (n c : Nat) (f : Nat → Nat) (w : World) (hc : n ≤ c) (hcm : c ≤ maxLen) (h : RdD w A n f) (hf : ∀ i, i < n → f i < B) :
    Calls Tryz.prog 104 #[.slice A n c] w fun e w' => ∃ m, e = .returned (.slice A m c) ∧ NatV B w (.slice A m c) (nv B f n) ∧ w = w' := by
  unfold maxLen at hcm
  have HF := Lib.hid hf
  clear hf
  go_enter Tryz.func104, Tryz.ntmps104
  go_wp2_with fail
  go_loopg [3] n (fun m v wr => ∃ k : Nat, k ≤ n ∧ m = k ∧ v = .int .i64 k ∧ (∀ i, k ≤ i → i < n → f i = 0) ∧ w = wr)
  case atStart => exact ⟨n, Nat.le_refl _, rfl, rfl, fun i h1 h2 => by omega, rfl⟩
  case round =>
    obtain ⟨k, hk, hm, rfl, hz, rfl⟩ := hrel
    have HM := Lib.hid hm
    have HZ := Lib.hid hz
    clear hm hz
    cases k with
    | zero =>
      go_wp2_with fail
      go_ret
      exact ⟨_, rfl, natV_trim hc (by unfold maxLen; exact hcm) h HF.out (Nat.zero_le _) HZ.out (fun h => absurd rfl h), rfl⟩
    | succ k =>
      obtain ⟨b, off, rfl, hb, hcell⟩ := h (by omega)
      have v0 := hcell k (by omega)
      clear hcell
      by_cases h0 : f k = 0
      · have t : (((f k : Nat) : Int) == 0) = true := by rw [h0]; rfl
        have H0 := Lib.hid h0
        clear h0
        go_wp2_with fail
        go_roundg k
        case measure => have := HM.out; omega
        case rel => exact ⟨k, by omega, rfl, by go_num, fun i h1 h2 => if e : i = k then e ▸ H0.out else HZ.out i (by omega) h2, rfl⟩
      · have t : (((f k : Nat) : Int) == 0) = false := by rw [beq_eq_false_iff_ne]; omega
        have H0 := Lib.hid h0
        clear h0
        go_wp2_with fail
        go_ret
        exact ⟨_, rfl, natV_trim hc (by unfold maxLen; exact hcm) h HF.out hk HZ.out (fun _ => H0.out), rfl⟩

/-- A value that reads as a number, in a block from H on. -/
def NatN (B H : Nat) (w : World) (v : Value) (x : Nat) : Prop := NatV B w v x ∧ ∀ g, v.ownBlock = some g → H ≤ g
theorem fresh_at {H g m c : Nat} (h : H ≤ g) : ∀ k, (Value.slice (some ⟨g, 0, none⟩) m c).ownBlock = some k → H ≤ k := fun k hk => by
  injection hk with hk; subst hk; exact h

/-! ### Digits of 64 bits -/
theorem infoU : (Tryz.prog.info? 121).map (fun i => (i.zero, i.size, i.bytes)) = some (some (.int .u32 0), 1, 4) := by kernel_rfl

theorem OwnD.nat {E : TypeId} {w : World} {B : Nat} {v : Value} {L : List Nat} {Bs : Nat} (h : OwnD E w B v L) (hd : Dig Bs (dl L) L.length) : NatV Bs w v (nv Bs (dl L) L.length) := by
  obtain ⟨A, cap, rfl, hc, hm⟩ := h.shape
  exact ⟨A, L.length, cap, dl L, rfl, hc, hm, h.rd.2, hd, rfl⟩

def room (x k : Nat) : Prop := k ≤ 64 ∧ x < 2 ^ (64 - k)
theorem room.step {x k B : Nat} (hB : 2 ≤ B) (h : room x k) (hx : 0 < x) : room (x / B) (k + 1) := by
  obtain ⟨h1, h2⟩ := h
  have hk : k < 64 := by
    refine Decidable.byContradiction fun hc => ?_
    rw [show 64 - k = 0 by omega] at h2
    omega
  refine ⟨hk, Nat.div_lt_of_lt_mul ?_⟩
  rw [show 64 - k = 64 - (k + 1) + 1 by omega, Nat.pow_succ] at h2
  have : 2 * 2 ^ (64 - (k + 1)) ≤ B * 2 ^ (64 - (k + 1)) := Nat.mul_le_mul_right _ hB
  omega

set_option maxHeartbeats 1000000 in
theorem natOf62 (N : Nat) (w : World) (hN : N < 18446744073709551616) :
    Calls Tryz.prog 95 #[.int .u64 N] w fun e w' => ∃ v, e = .returned v ∧ NatV 1000000000 w' v N ∧ Below w.heap.size w w' := by
  obtain ⟨i0, hi, hz0, hz1, hz2⟩ := info_parts infoU
  have hroom : room N 0 := ⟨by omega, by simpa using hN⟩
  have HR := Lib.hid hroom
  clear hroom
  go_enter Tryz.func95, Tryz.ntmps95
  go_wp2_with fail
  go_loopg [0, 3] N (fun m n v wr => ∃ (x : Nat) (X : Int) (L : List Nat), m = x ∧ X = x ∧ n = .int .u64 X ∧ x < 18446744073709551616 ∧ OwnD 121 wr w.heap.size v L ∧ NatI 1000000000 (dl L) L.length x N ∧ room x L.length ∧ Below w.heap.size w wr)
  case atStart => exact ⟨N, N, [], rfl, rfl, rfl, hN, OwnD.nil, NatI.start, HR.out, Below.refl _ _⟩
  case round =>
    obtain ⟨x, X, L, hm, hX, rfl, hx, hown, hI, hr, hb⟩ := hrel
    have hX0 : 0 ≤ X ∧ X < 18446744073709551616 := by omega
    have HM := Lib.hid hm
    have HX := Lib.hid hX
    clear hm hX
    by_cases h0 : x = 0
    · have d0 : X = 0 := by have := HX.out; omega
      subst d0
      subst h0
      go_wp2_with fail
      go_ret
      obtain ⟨k1, k2⟩ := hI.done
      have := hown.nat k1
      rw [k2] at this
      exact ⟨_, rfl, this, hb⟩
    · have d0 : 0 < X := by have := HX.out; omega
      have hI2 := hI.step (by omega) (show 0 < x by omega)
      have hr2 := hr.step (B := 1000000000) (by omega) (show 0 < x by omega)
      have hl := hr.1
      obtain ⟨A, cap, rfl, hcap⟩ := hown.shape
      have e1 : IntKind.u32.wrap (X % 1000000000) = X % 1000000000 := IntWalk.u32_in _ (by omega)
      have e2 : X % 1000000000 = ((x % 1000000000 : Nat) : Int) := by have := HX.out; omega
      have E2 := Lib.hid e2
      have HR2 := Lib.hid hr2
      clear e2 hr2 h0
      have hHw : w.heap.size ≤ wr.heap.size := hb.size
      go_wp2_with (at_builtin; refine wpList_append_lies _ (by rfl) (.tmp 8) (.tmp 12) 112 (by rfl) w.heap.size 121 i0 _ 1 4 Tryz.underlying112 hi hz0 hz1 hz2 rfl (by omega) _ _ _ (by rfl) (World.ownsRow.alloc hown _) ⟨wr.heap.size, 0, none⟩ 1 1 [.int .u32 (X % 1000000000)] (by rfl) (by rfl) (World.news_of_block (heap_alloc_new wr _)) (by simp [Value.oneCell']) (by omega) (by unfold maxLen; omega) (by omega) (by simp; omega) (wr.heap.size + 1) (by simp) ?_; intro g' cap' w6 hown6 hgrow hat hlt6)
      rw [E2.out] at hown6
      have ho : OwnD 121 w6 w.heap.size (.slice (some ⟨g', 0, none⟩) (L.length + 1) cap') (L ++ [x % 1000000000]) := OwnD.snoc hown6
      have hb6 : Below w.heap.size w w6 := (hb.alloc hb.size _).grown hgrow (by simp; omega) (fun q hq => (World.ownsRow.lt hown q hq).1)
      clear hown6 hgrow hat hown
      go_wp2_with fail
      go_roundg (x / 1000000000)
      case measure => have := HM.out; have := HX.out; omega
      case rel => exact ⟨x / 1000000000, X / 1000000000, L ++ [x % 1000000000], rfl, by have := HX.out; omega, rfl, by omega, ho, by rw [dl_snoc]; simpa using hI2, by simpa using HR2.out, hb6⟩

set_option maxHeartbeats 1000000 in
theorem natural122 (N : Nat) (w : World) (hN : N < 18446744073709551616) :
    Calls Tryz.prog 91 #[.int .u64 N] w fun e w' => ∃ v, e = .returned v ∧ NatV 4294967296 w' v N ∧ Below w.heap.size w w' := by
  obtain ⟨X, hX⟩ : ∃ X : Int, X = N := ⟨_, rfl⟩
  rw [← hX]
  have hX0 : 0 ≤ X ∧ X < 18446744073709551616 := by omega
  have e1 : IntKind.u32.wrap X = X % 4294967296 := IntKind.wrap_u32 _
  have e2 : IntKind.u32.wrap (X / 4294967296) = X / 4294967296 := IntWalk.u32_in _ (by omega)
  have e3 : X % 4294967296 = ((N % 4294967296 : Nat) : Int) ∧ X / 4294967296 = ((N / 4294967296 : Nat) : Int) := by omega
  have E3 := Lib.hid e3
  have hv : nv 4294967296 (dl [N % 4294967296, N / 4294967296]) 2 = N := by
    simp only [nv, dl, List.getD_cons_zero, List.getD_cons_succ]; omega
  have hd : ∀ i, i < 2 → dl [N % 4294967296, N / 4294967296] i < 4294967296 := fun i hi => by
    match i with
    | 0 => simp only [dl, List.getD_cons_zero]; omega
    | 1 => simp only [dl, List.getD_cons_zero, List.getD_cons_succ]; omega
  have HV := Lib.hid hv
  have HD := Lib.hid hd
  clear hv hd hX e3
  go_enter Tryz.func91, Tryz.ntmps91
  go_wp2_with fail
  have hblk := heap_alloc_new w (.cells #[.int .u32 (X % 4294967296), .int .u32 (X / 4294967296)] 121)
  have hbel : Below w.heap.size w (w.alloc (.cells #[.int .u32 (X % 4294967296), .int .u32 (X / 4294967296)] 121)) := (Below.refl _ _).alloc (Nat.le_refl _) _
  have hrd : RdD (w.alloc (.cells #[.int .u32 (X % 4294967296), .int .u32 (X / 4294967296)] 121)) (some ⟨w.heap.size, 0, none⟩) 2 (dl [N % 4294967296, N / 4294967296]) := fun _ => ⟨w.heap.size, 0, rfl, lt_of_blk hblk, fun i hi => by
    rw [cell_of_block hblk]
    match i with
    | 0 => rw [E3.out.1]; rfl
    | 1 => rw [E3.out.2]; rfl⟩
  refine (trim142 4294967296 (some ⟨w.heap.size, 0, none⟩) 2 2 _ _ (Nat.le_refl _) (by unfold maxLen; omega) hrd HD.out).mono ?_
  rintro e w1 ⟨v, rfl, hv, rfl⟩
  rw [HV.out] at hv
  go_wp2_with fail
  go_ret
  exact ⟨_, rfl, hv, hbel⟩

set_option maxHeartbeats 1000000 in
theorem digit143 (A : Option Addr) (n c i : Nat) (f : Nat → Nat) (w : World) (hc : n ≤ maxLen) (h : RdD w A n f) (hf : ∀ i, i < n → f i < 4294967296) (hi : i ≤ maxLen) :
    Calls Tryz.prog 122 #[.slice A n c, .int .i64 i] w fun e w' => e = .returned (.int .u64 (ext f n i)) ∧ w = w' := by
  unfold maxLen at hc hi
  by_cases hin : i < n
  · obtain ⟨b, off, rfl, hb, hcell⟩ := h (by omega)
    have v0 := hcell i hin
    have hx := hf i hin
    have e : ext f n i = f i := ext_lt hin
    have E := Lib.hid e
    clear hcell hf h e
    go_enter Tryz.func122, Tryz.ntmps122
    go_wp2_with fail
    go_ret
    exact ⟨by rw [E.out]; rfl, rfl⟩
  · have e : ext f n i = 0 := ext_ge (by omega)
    have E := Lib.hid e
    clear hf h e
    go_enter Tryz.func122, Tryz.ntmps122
    go_wp2_with fail
    go_ret
    exact ⟨by rw [E.out]; rfl, rfl⟩

theorem drewN_zero (w : World) : w = w.drewN 0 := rfl
theorem drewN_trans {a b : World} {n m : Nat} (h : a = b.drewN n) : a.drewN m = b.drewN (n + m) := by
  subst h
  rw [World.drewN_drewN]
theorem nv_same {B : Nat} {f g : Nat → Nat} {n : Nat} (h : ∀ i, 0 ≤ i → i < n → f i = g i) : nv B f n = nv B g n := nv_congr fun i hi => h i (by omega) hi

set_option maxRecDepth 100000 in
set_option maxHeartbeats 1000000 in
theorem cmpNat64 (B : Nat) (hB : 1 < B) (v1 v2 : Value) (a b : Nat) (w : World) (h1 : NatV B w v1 a) (h2 : NatV B w v2 b) :
    Calls Tryz.prog 112 #[v1, v2] w fun e w' => e = .returned (.int .i64 (cmpI a b)) ∧ ∃ k, w' = w.drewN k := by
  obtain ⟨A1, n, c1, f, rfl, hc1, hm1, hr1, hd1, rfl⟩ := h1
  obtain ⟨A2, m, c2, g, rfl, hc2, hm2, hr2, hd2, rfl⟩ := h2
  unfold maxLen at hm1 hm2
  rcases Nat.lt_trichotomy n m with hlt | heq | hgt
  · have e := Lib.hid (cmpI_lt (cmp_len hB hd1 hd2 hlt))
    have d1 : decide (n < m) = true := by simpa using hlt
    have d2 : ((n : Int) == m) = false := by rw [beq_eq_false_iff_ne]; omega
    have d3 : ((n : Int) != m) = true := by rw [bne_iff_ne]; omega
    clear hr1 hr2 hd1 hd2
    go_enter Tryz.func112, Tryz.ntmps112
    go_wp2_with fail
    go_ret
    exact ⟨by rw [e.out]; rfl, ⟨0, rfl⟩⟩
  · subst heq
    have HD1 := Lib.hid hd1.1
    have HD2 := Lib.hid hd2.1
    clear hd1 hd2
    go_enter Tryz.func112, Tryz.ntmps112
    go_wp2_with fail
    go_loopg [5] n (fun r i wr => ∃ k : Nat, k ≤ n ∧ r = k ∧ i = .int .i64 ((k : Int) - 1) ∧ (∀ j, k ≤ j → j < n → f j = g j) ∧ ∃ q, wr = w.drewN q)
    case atStart => exact ⟨n, Nat.le_refl _, rfl, rfl, fun j h1 h2 => by omega, 0, rfl⟩
    case round =>
      obtain ⟨k, hk, hr, rfl, hz, q, rfl⟩ := hrel
      have HR := Lib.hid hr
      have HZ := Lib.hid hz
      clear hr hz
      cases k with
      | zero =>
        have e := Lib.hid (cmpI_eq (nv_same (B := B) HZ.out))
        go_wp2_with fail
        go_ret
        exact ⟨by rw [e.out]; rfl, q, rfl⟩
      | succ k =>
        obtain ⟨b1, o1, rfl, hb1, hcell1⟩ := hr1 (by omega)
        obtain ⟨b2, o2, rfl, hb2, hcell2⟩ := hr2 (by omega)
        have x0 := hcell1 k (by omega)
        have y0 := hcell2 k (by omega)
        have ei : ((k + 1 : Nat) : Int) - 1 = (k : Int) := by omega
        rw [ei]
        clear hcell1 hcell2 hr1 hr2 ei
        have x1 : ∀ q, (w.drewN q).cell? ⟨b1, o1 + k, none⟩ = some (u32V (f k)) := fun q => x0
        have y1 : ∀ q, (w.drewN q).cell? ⟨b2, o2 + k, none⟩ = some (u32V (g k)) := fun q => y0
        have hz2 := HZ.out
        rcases Nat.lt_trichotomy (f k) (g k) with hlt | heq | hgt
        · have e := Lib.hid (cmpI_lt (cmp_top (B := B) (show k < n by omega) HD1.out HD2.out (fun j h1 h2 => hz2 j h1 h2) hlt))
          have d1 : decide (f k < g k) = true := by simpa using hlt
          have d3 : (((f k : Nat) : Int) != ((g k : Nat) : Int)) = true := by rw [bne_iff_ne]; omega
          clear hz2
          go_wp2_with fail
          go_quiet (fail)
          go_wp2_with fail
          try go_quiet (fail)
          try go_wp2_with fail
          go_ret
          exact ⟨by rw [e.out]; rfl, by (try simp only [World.drewN_drewN]); exact ⟨_, rfl⟩⟩
        · have d1 : decide (f k < g k) = false := by simp; omega
          have d2 : decide (g k < f k) = false := by simp; omega
          have d3 : (((f k : Nat) : Int) != ((g k : Nat) : Int)) = false := by rw [bne_eq_false_iff_eq]; omega
          have HE := Lib.hid heq
          have hz3 : ∀ j, k ≤ j → j < n → f j = g j := fun j h1 h2 => if e : j = k then e ▸ heq else hz2 j (by omega) h2
          have HZ3 := Lib.hid hz3
          clear hz2 hz3 heq
          go_wp2_with fail
          go_quiet (fail)
          go_wp2_with fail
          try go_quiet (fail)
          try go_wp2_with fail
          go_roundg k
          case measure => have := HR.out; omega
          case rel => exact ⟨k, by omega, rfl, rfl, HZ3.out, by (try simp only [World.drewN_drewN]); exact ⟨_, rfl⟩⟩
        · have e := Lib.hid (cmpI_gt (cmp_top (B := B) (show k < n by omega) HD2.out HD1.out (fun j h1 h2 => (hz2 j h1 h2).symm) hgt))
          have d1 : decide (f k < g k) = false := by simp; omega
          have d2 : decide (g k < f k) = true := by simpa using hgt
          have d3 : (((f k : Nat) : Int) != ((g k : Nat) : Int)) = true := by rw [bne_iff_ne]; omega
          clear hz2
          go_wp2_with fail
          go_quiet (fail)
          go_wp2_with fail
          try go_quiet (fail)
          try go_wp2_with fail
          go_ret
          exact ⟨by rw [e.out]; rfl, by (try simp only [World.drewN_drewN]); exact ⟨_, rfl⟩⟩
  · have e := Lib.hid (cmpI_gt (cmp_len hB hd2 hd1 hgt))
    have d1 : decide (n < m) = false := by simp; omega
    have d4 : decide (m < n) = true := by simpa using hgt
    have d3 : ((n : Int) != m) = true := by rw [bne_iff_ne]; omega
    clear hr1 hr2 hd1 hd2
    go_enter Tryz.func112, Tryz.ntmps112
    go_wp2_with fail
    go_ret
    exact ⟨by rw [e.out]; rfl, ⟨0, rfl⟩⟩

set_option maxRecDepth 100000 in
set_option maxHeartbeats 1000000 in
theorem compare119 (B : Nat) (hB : 1 < B) (v1 v2 : Value) (a b : Nat) (w : World) (h1 : NatV B w v1 a) (h2 : NatV B w v2 b) :
    Calls Tryz.prog 88 #[v1, v2] w fun e w' => e = .returned (.int .i64 (cmpI a b)) ∧ ∃ k, w' = w.drewN k := by
  obtain ⟨A1, n, c1, f, rfl, hc1, hm1, hr1, hd1, rfl⟩ := h1
  obtain ⟨A2, m, c2, g, rfl, hc2, hm2, hr2, hd2, rfl⟩ := h2
  unfold maxLen at hm1 hm2
  rcases Nat.lt_trichotomy n m with hlt | heq | hgt
  · have e := Lib.hid (cmpI_lt (cmp_len hB hd1 hd2 hlt))
    have d1 : decide (n < m) = true := by simpa using hlt
    have d2 : ((n : Int) == m) = false := by rw [beq_eq_false_iff_ne]; omega
    have d3 : ((n : Int) != m) = true := by rw [bne_iff_ne]; omega
    clear hr1 hr2 hd1 hd2
    go_enter Tryz.func88, Tryz.ntmps88
    go_wp2_with fail
    go_ret
    exact ⟨by rw [e.out]; rfl, ⟨0, rfl⟩⟩
  · subst heq
    have HD1 := Lib.hid hd1.1
    have HD2 := Lib.hid hd2.1
    clear hd1 hd2
    go_enter Tryz.func88, Tryz.ntmps88
    go_wp2_with fail
    go_loopg [5] n (fun r i wr => ∃ k : Nat, k ≤ n ∧ r = k ∧ i = .int .i64 ((k : Int) - 1) ∧ (∀ j, k ≤ j → j < n → f j = g j) ∧ ∃ q, wr = w.drewN q)
    case atStart => exact ⟨n, Nat.le_refl _, rfl, rfl, fun j h1 h2 => by omega, 0, rfl⟩
    case round =>
      obtain ⟨k, hk, hr, rfl, hz, q, rfl⟩ := hrel
      have HR := Lib.hid hr
      have HZ := Lib.hid hz
      clear hr hz
      cases k with
      | zero =>
        have e := Lib.hid (cmpI_eq (nv_same (B := B) HZ.out))
        go_wp2_with fail
        go_ret
        exact ⟨by rw [e.out]; rfl, q, rfl⟩
      | succ k =>
        obtain ⟨b1, o1, rfl, hb1, hcell1⟩ := hr1 (by omega)
        obtain ⟨b2, o2, rfl, hb2, hcell2⟩ := hr2 (by omega)
        have x0 := hcell1 k (by omega)
        have y0 := hcell2 k (by omega)
        have ei : ((k + 1 : Nat) : Int) - 1 = (k : Int) := by omega
        rw [ei]
        clear hcell1 hcell2 hr1 hr2 ei
        have x1 : ∀ q, (w.drewN q).cell? ⟨b1, o1 + k, none⟩ = some (u32V (f k)) := fun q => x0
        have y1 : ∀ q, (w.drewN q).cell? ⟨b2, o2 + k, none⟩ = some (u32V (g k)) := fun q => y0
        have hz2 := HZ.out
        rcases Nat.lt_trichotomy (f k) (g k) with hlt | heq | hgt
        · have e := Lib.hid (cmpI_lt (cmp_top (B := B) (show k < n by omega) HD1.out HD2.out (fun j h1 h2 => hz2 j h1 h2) hlt))
          have d1 : decide (f k < g k) = true := by simpa using hlt
          have d3 : (((f k : Nat) : Int) != ((g k : Nat) : Int)) = true := by rw [bne_iff_ne]; omega
          clear hz2
          go_wp2_with fail
          go_quiet (fail)
          go_wp2_with fail
          try go_quiet (fail)
          try go_wp2_with fail
          go_ret
          exact ⟨by rw [e.out]; rfl, by (try simp only [World.drewN_drewN]); exact ⟨_, rfl⟩⟩
        · have d1 : decide (f k < g k) = false := by simp; omega
          have d2 : decide (g k < f k) = false := by simp; omega
          have d3 : (((f k : Nat) : Int) != ((g k : Nat) : Int)) = false := by rw [bne_eq_false_iff_eq]; omega
          have HE := Lib.hid heq
          have hz3 : ∀ j, k ≤ j → j < n → f j = g j := fun j h1 h2 => if e : j = k then e ▸ heq else hz2 j (by omega) h2
          have HZ3 := Lib.hid hz3
          clear hz2 hz3 heq
          go_wp2_with fail
          go_quiet (fail)
          go_wp2_with fail
          try go_quiet (fail)
          try go_wp2_with fail
          go_roundg k
          case measure => have := HR.out; omega
          case rel => exact ⟨k, by omega, rfl, rfl, HZ3.out, by (try simp only [World.drewN_drewN]); exact ⟨_, rfl⟩⟩
        · have e := Lib.hid (cmpI_gt (cmp_top (B := B) (show k < n by omega) HD2.out HD1.out (fun j h1 h2 => (hz2 j h1 h2).symm) hgt))
          have d1 : decide (f k < g k) = false := by simp; omega
          have d2 : decide (g k < f k) = true := by simpa using hgt
          have d3 : (((f k : Nat) : Int) != ((g k : Nat) : Int)) = true := by rw [bne_iff_ne]; omega
          clear hz2
          go_wp2_with fail
          go_quiet (fail)
          go_wp2_with fail
          try go_quiet (fail)
          try go_wp2_with fail
          go_ret
          exact ⟨by rw [e.out]; rfl, by (try simp only [World.drewN_drewN]); exact ⟨_, rfl⟩⟩
  · have e := Lib.hid (cmpI_gt (cmp_len hB hd2 hd1 hgt))
    have d1 : decide (n < m) = false := by simp; omega
    have d4 : decide (m < n) = true := by simpa using hgt
    have d3 : ((n : Int) != m) = true := by rw [bne_iff_ne]; omega
    clear hr1 hr2 hd1 hd2
    go_enter Tryz.func88, Tryz.ntmps88
    go_wp2_with fail
    go_ret
    exact ⟨by rw [e.out]; rfl, ⟨0, rfl⟩⟩

/-- A digit as an Int letter. -/
theorem letter (x : Nat) : ∃ X : Int, X = (x : Int) := ⟨_, rfl⟩
theorem below_of_grown {a b c : World} {H : Nat} {row : Option Nat} (h : Below H a b) (hs : H ≤ b.heap.size) (hg : b.grownBy c row) (hr : ∀ q, row = some q → H ≤ q) : Below H a c := h.grown hg hs hr

set_option maxRecDepth 100000 in
set_option maxHeartbeats 2000000 in
theorem addNat_ge (A1 A2 : Option Addr) (n m c1 c2 : Nat) (f g : Nat → Nat) (w : World) (hn : n ≤ 1048576) (hm : m ≤ 1048576) (h1 : RdD w A1 n f) (h2 : RdD w A2 m g) (hd1 : ∀ i, i < n → f i < 1000000000) (hd2 : ∀ i, i < m → g i < 1000000000) (hle : m ≤ n) :
    Calls Tryz.prog 111 #[.slice A1 n c1, .slice A2 m c2] w fun e w' => ∃ v, e = .returned v ∧ NatV 1000000000 w' v (nv 1000000000 f n + nv 1000000000 g m) ∧ Below w.heap.size w w' := by
  obtain ⟨i0, hi, hz0, hz1, hz2⟩ := info_parts infoU
  have HD1 := Lib.hid hd1
  have HD2 := Lib.hid hd2
  clear hd1 hd2
  have dlt : decide (n < m) = false := by simp; omega
  go_enter Tryz.func111, Tryz.ntmps111
  go_wp2_with (at_make; refine wpList_make_own _ rfl _ _ 112 rfl w.heap.size 121 i0 (.int .u32 0) 1 Tryz.underlying112 hi hz0 hz1 .i64 .i64 _ (n + 1) rfl rfl (by first | rfl | omega) (by rw [hz2]; omega) (by unfold maxLen; omega) (Nat.le_refl _) ?_; intro w0 hown0 hgrow0)
  have hb0 : Below w.heap.size w w0 := (Below.refl _ _).grown hgrow0 (Nat.le_refl _) (fun q hq => by cases hq)
  have ho0 : OwnD 121 w0 w.heap.size (.slice (some ⟨w.heap.size, 0, none⟩) 0 (n + 1)) [] := hown0
  clear hown0 hgrow0 dlt
  go_wp2_with fail
  go_loopg [22, 5, 6, 7, 8] n (fun r i v cc _ _ wr => ∃ (k c : Nat) (C : Int) (L : List Nat), k ≤ n ∧ r = n - k ∧ i = .int .i64 k ∧ cc = .int .u32 C ∧ C = c ∧ L.length = k ∧ OwnD 121 wr w.heap.size v L ∧ AddI 1000000000 f (ext g m) (dl L) k c ∧ Below w.heap.size w wr)
  case atStart => exact ⟨0, 0, 0, [], Nat.zero_le _, rfl, rfl, rfl, rfl, rfl, ho0, AddI.zero, hb0⟩
  case round =>
    clear ho0 hb0
    obtain ⟨k, c, C, L, hk, hr, rfl, rfl, hC, hL, hown, hI, hb⟩ := hrel
    have hc1 := hI.c1
    have hCb : 0 ≤ C ∧ C ≤ 1 := by omega
    have HR := Lib.hid hr
    have HC := Lib.hid hC
    have HL := Lib.hid hL
    clear hr hC
    have hLk : L.length ≤ 1048576 := by omega
    have hHw : w.heap.size ≤ wr.heap.size := hb.size
    clear hL
    obtain ⟨A, cap, rfl, hcap, _⟩ := hown.shape
    by_cases hkn : k < n
    · have hx := HD1.out k
      have hy := HD2.out k
      obtain ⟨b1, o1, rfl, hb1, hcell1⟩ := h1 (by omega)
      have x0 := hcell1 k (by omega)
      replace x0 : wr.cell? ⟨b1, o1 + k, none⟩ = some (u32V (f k)) := by rw [← x0]; exact hb.cell (p := ⟨b1, o1 + k, none⟩) hb1
      have hxb : f k < 1000000000 := by first | exact hx (by omega) | exact hy (by omega)
      obtain ⟨F, hF⟩ := letter (f k)
      have hFb : 0 ≤ F ∧ F < 1000000000 := by omega
      unfold u32V at x0
      rw [← hF] at x0
      have HF := Lib.hid hF
      have hlt : b1 < wr.heap.size := by omega
      clear hcell1 hx hy hF
      by_cases hkm : k < m
      · obtain ⟨b2, o2, rfl, hb2, hcell2⟩ := h2 (by omega)
        have y0 := hcell2 k (by omega)
        replace y0 : wr.cell? ⟨b2, o2 + k, none⟩ = some (u32V (g k)) := by rw [← y0]; exact hb.cell (p := ⟨b2, o2 + k, none⟩) hb2
        have hyb : g k < 1000000000 := by first | exact HD1.out k (by omega) | exact HD2.out k (by omega)
        have heg : ext g m k = g k := ext_lt hkm
        obtain ⟨G, hG⟩ := letter (g k)
        have hGb : 0 ≤ G ∧ G < 1000000000 := by omega
        unfold u32V at y0
        rw [← hG] at y0
        have hI2 := hI.step (by omega) hxb (by rw [heg]; exact hyb)
        rw [heg] at hI2
        have hlt2 : b2 < wr.heap.size := by omega
        have ed : (F + C + G) % 1000000000 = ((f k + g k + c) % 1000000000 : Nat) ∧ (F + C + G) / 1000000000 = ((f k + g k + c) / 1000000000 : Nat) := by have := HF.out; have := HC.out; omega
        have HE := Lib.hid ed
        clear hcell2 hG heg h1 h2 ed hxb hyb hI
        go_wp2_with (at_builtin; refine wpList_append_lies _ (by rfl) (.tmp 42) (.tmp 45) 112 (by rfl) w.heap.size 121 i0 _ 1 4 Tryz.underlying112 hi hz0 hz1 hz2 rfl (by omega) _ _ _ (by rfl) (World.ownsRow.alloc hown _) ⟨wr.heap.size, 0, none⟩ 1 1 [.int .u32 ((F + C + G) % 1000000000)] (by rfl) (by rfl) (World.news_of_block (heap_alloc_new wr _)) (by simp [Value.oneCell']) (by omega) (by unfold maxLen; omega) (by omega) (by simp; omega) (wr.heap.size + 1) (by simp) ?_; intro g' cap' w6 hown6 hgrow hat hlt6)
        rw [HE.out.1] at hown6
        have ho := OwnD.snoc (E := 121) hown6
        have hb6 : Below w.heap.size w w6 := (hb.alloc hb.size _).grown hgrow (by simp; omega) (fun q hq => (World.ownsRow.lt hown q hq).1)
        clear hown6 hgrow hat hown
        go_wp2_with fail
        go_roundg (n - (k + 1))
        case measure => have := HR.out; omega
        case rel => exact ⟨k + 1, _, _, L ++ [(f k + g k + c) % 1000000000], by omega, rfl, by go_num, rfl, HE.out.2, by simp [HL.out], by simpa using ho, by rw [dl_snoc, HL.out]; exact hI2, hb6⟩
      · have heg : ext g m k = 0 := ext_ge (by omega)
        have hI2 := hI.step (by omega) hxb (by rw [heg]; omega)
        rw [heg] at hI2
        have ed : (F + C) % 1000000000 = ((f k + 0 + c) % 1000000000 : Nat) ∧ (F + C) / 1000000000 = ((f k + 0 + c) / 1000000000 : Nat) := by have := HF.out; have := HC.out; omega
        have HE := Lib.hid ed
        clear heg h1 h2 ed hxb hI
        go_wp2_with (at_builtin; refine wpList_append_lies _ (by rfl) (.tmp 42) (.tmp 45) 112 (by rfl) w.heap.size 121 i0 _ 1 4 Tryz.underlying112 hi hz0 hz1 hz2 rfl (by omega) _ _ _ (by rfl) (World.ownsRow.alloc hown _) ⟨wr.heap.size, 0, none⟩ 1 1 [.int .u32 ((F + C) % 1000000000)] (by rfl) (by rfl) (World.news_of_block (heap_alloc_new wr _)) (by simp [Value.oneCell']) (by omega) (by unfold maxLen; omega) (by omega) (by simp; omega) (wr.heap.size + 1) (by simp) ?_; intro g' cap' w6 hown6 hgrow hat hlt6)
        rw [HE.out.1] at hown6
        have ho := OwnD.snoc (E := 121) hown6
        have hb6 : Below w.heap.size w w6 := (hb.alloc hb.size _).grown hgrow (by simp; omega) (fun q hq => (World.ownsRow.lt hown q hq).1)
        clear hown6 hgrow hat hown
        go_wp2_with fail
        go_roundg (n - (k + 1))
        case measure => have := HR.out; omega
        case rel => exact ⟨k + 1, _, _, L ++ [(f k + 0 + c) % 1000000000], by omega, rfl, by go_num, rfl, HE.out.2, by simp [HL.out], by simpa using ho, by rw [dl_snoc, HL.out]; exact hI2, hb6⟩
    · obtain rfl : k = n := by omega
      have hlast := hI.last (by omega)
      rw [nv_ext hle] at hlast
      have HLA := Lib.hid hlast
      clear hlast hI h1 h2
      go_wp2_with (at_builtin; refine wpList_append_lies _ (by rfl) (.tmp 48) (.tmp 50) 112 (by rfl) w.heap.size 121 i0 _ 1 4 Tryz.underlying112 hi hz0 hz1 hz2 rfl (by omega) _ _ _ (by rfl) (World.ownsRow.alloc hown _) ⟨wr.heap.size, 0, none⟩ 1 1 [.int .u32 C] (by rfl) (by rfl) (World.news_of_block (heap_alloc_new wr _)) (by simp [Value.oneCell']) (by omega) (by unfold maxLen; omega) (by omega) (by simp; omega) (wr.heap.size + 1) (by simp) ?_; intro g' cap' w6 hown6 hgrow hat hlt6)
      rw [HC.out] at hown6
      have ho := OwnD.snoc (E := 121) hown6
      have hb6 : Below w.heap.size w w6 := (hb.alloc hb.size _).grown hgrow (by simp; omega) (fun q hq => (World.ownsRow.lt hown q hq).1)
      clear hown6 hgrow hat hown
      obtain ⟨A', cap2, hsh, hcp, hcm⟩ := ho.shape
      injection hsh with _ _ hsh
      subst hsh
      have hrd := ho.rd.2
      rw [dl_snoc, HL.out, show (L ++ [c]).length = k + 1 by simp [HL.out]] at hrd
      have hcp' : k + 1 ≤ cap' := by have := HL.out; simp at hcp; omega
      rw [HL.out]
      refine (trim115 1000000000 (some ⟨g', 0, none⟩) (k + 1) cap' _ w6 hcp' hcm hrd HLA.out.2).mono ?_
      rintro e w7 ⟨v, rfl, hv, rfl⟩
      rw [HLA.out.1] at hv
      go_wp2_with fail
      go_ret
      exact ⟨_, rfl, hv, hb6⟩

set_option maxRecDepth 100000 in
set_option maxHeartbeats 2000000 in
theorem addNat_lt (A1 A2 : Option Addr) (n m c1 c2 : Nat) (f g : Nat → Nat) (w : World) (hn : n ≤ 1048576) (hm : m ≤ 1048576) (h1 : RdD w A1 n f) (h2 : RdD w A2 m g) (hd1 : ∀ i, i < n → f i < 1000000000) (hd2 : ∀ i, i < m → g i < 1000000000) (hle : n < m) :
    Calls Tryz.prog 111 #[.slice A1 n c1, .slice A2 m c2] w fun e w' => ∃ v, e = .returned v ∧ NatV 1000000000 w' v (nv 1000000000 g m + nv 1000000000 f n) ∧ Below w.heap.size w w' := by
  obtain ⟨i0, hi, hz0, hz1, hz2⟩ := info_parts infoU
  have HD1 := Lib.hid hd1
  have HD2 := Lib.hid hd2
  clear hd1 hd2
  have dlt : decide (n < m) = true := by simp; omega
  go_enter Tryz.func111, Tryz.ntmps111
  go_wp2_with (at_make; refine wpList_make_own _ rfl _ _ 112 rfl w.heap.size 121 i0 (.int .u32 0) 1 Tryz.underlying112 hi hz0 hz1 .i64 .i64 _ (m + 1) rfl rfl (by first | rfl | omega) (by rw [hz2]; omega) (by unfold maxLen; omega) (Nat.le_refl _) ?_; intro w0 hown0 hgrow0)
  have hb0 : Below w.heap.size w w0 := (Below.refl _ _).grown hgrow0 (Nat.le_refl _) (fun q hq => by cases hq)
  have ho0 : OwnD 121 w0 w.heap.size (.slice (some ⟨w.heap.size, 0, none⟩) 0 (m + 1)) [] := hown0
  clear hown0 hgrow0 dlt
  go_wp2_with fail
  go_loopg [22, 5, 6, 7, 8] m (fun r i v cc _ _ wr => ∃ (k c : Nat) (C : Int) (L : List Nat), k ≤ m ∧ r = m - k ∧ i = .int .i64 k ∧ cc = .int .u32 C ∧ C = c ∧ L.length = k ∧ OwnD 121 wr w.heap.size v L ∧ AddI 1000000000 g (ext f n) (dl L) k c ∧ Below w.heap.size w wr)
  case atStart => exact ⟨0, 0, 0, [], Nat.zero_le _, rfl, rfl, rfl, rfl, rfl, ho0, AddI.zero, hb0⟩
  case round =>
    clear ho0 hb0
    obtain ⟨k, c, C, L, hk, hr, rfl, rfl, hC, hL, hown, hI, hb⟩ := hrel
    have hc1 := hI.c1
    have hCb : 0 ≤ C ∧ C ≤ 1 := by omega
    have HR := Lib.hid hr
    have HC := Lib.hid hC
    have HL := Lib.hid hL
    clear hr hC
    have hLk : L.length ≤ 1048576 := by omega
    have hHw : w.heap.size ≤ wr.heap.size := hb.size
    clear hL
    obtain ⟨A, cap, rfl, hcap, _⟩ := hown.shape
    by_cases hkn : k < m
    · have hx := HD1.out k
      have hy := HD2.out k
      obtain ⟨b1, o1, rfl, hb1, hcell1⟩ := h2 (by omega)
      have x0 := hcell1 k (by omega)
      replace x0 : wr.cell? ⟨b1, o1 + k, none⟩ = some (u32V (g k)) := by rw [← x0]; exact hb.cell (p := ⟨b1, o1 + k, none⟩) hb1
      have hxb : g k < 1000000000 := by first | exact hx (by omega) | exact hy (by omega)
      obtain ⟨F, hF⟩ := letter (g k)
      have hFb : 0 ≤ F ∧ F < 1000000000 := by omega
      unfold u32V at x0
      rw [← hF] at x0
      have HF := Lib.hid hF
      have hlt : b1 < wr.heap.size := by omega
      clear hcell1 hx hy hF
      by_cases hkm : k < n
      · obtain ⟨b2, o2, rfl, hb2, hcell2⟩ := h1 (by omega)
        have y0 := hcell2 k (by omega)
        replace y0 : wr.cell? ⟨b2, o2 + k, none⟩ = some (u32V (f k)) := by rw [← y0]; exact hb.cell (p := ⟨b2, o2 + k, none⟩) hb2
        have hyb : f k < 1000000000 := by first | exact HD1.out k (by omega) | exact HD2.out k (by omega)
        have heg : ext f n k = f k := ext_lt hkm
        obtain ⟨G, hG⟩ := letter (f k)
        have hGb : 0 ≤ G ∧ G < 1000000000 := by omega
        unfold u32V at y0
        rw [← hG] at y0
        have hI2 := hI.step (by omega) hxb (by rw [heg]; exact hyb)
        rw [heg] at hI2
        have hlt2 : b2 < wr.heap.size := by omega
        have ed : (F + C + G) % 1000000000 = ((g k + f k + c) % 1000000000 : Nat) ∧ (F + C + G) / 1000000000 = ((g k + f k + c) / 1000000000 : Nat) := by have := HF.out; have := HC.out; omega
        have HE := Lib.hid ed
        clear hcell2 hG heg h1 h2 ed hxb hyb hI
        go_wp2_with (at_builtin; refine wpList_append_lies _ (by rfl) (.tmp 42) (.tmp 45) 112 (by rfl) w.heap.size 121 i0 _ 1 4 Tryz.underlying112 hi hz0 hz1 hz2 rfl (by omega) _ _ _ (by rfl) (World.ownsRow.alloc hown _) ⟨wr.heap.size, 0, none⟩ 1 1 [.int .u32 ((F + C + G) % 1000000000)] (by rfl) (by rfl) (World.news_of_block (heap_alloc_new wr _)) (by simp [Value.oneCell']) (by omega) (by unfold maxLen; omega) (by omega) (by simp; omega) (wr.heap.size + 1) (by simp) ?_; intro g' cap' w6 hown6 hgrow hat hlt6)
        rw [HE.out.1] at hown6
        have ho := OwnD.snoc (E := 121) hown6
        have hb6 : Below w.heap.size w w6 := (hb.alloc hb.size _).grown hgrow (by simp; omega) (fun q hq => (World.ownsRow.lt hown q hq).1)
        clear hown6 hgrow hat hown
        go_wp2_with fail
        go_roundg (m - (k + 1))
        case measure => have := HR.out; omega
        case rel => exact ⟨k + 1, _, _, L ++ [(g k + f k + c) % 1000000000], by omega, rfl, by go_num, rfl, HE.out.2, by simp [HL.out], by simpa using ho, by rw [dl_snoc, HL.out]; exact hI2, hb6⟩
      · have heg : ext f n k = 0 := ext_ge (by omega)
        have hI2 := hI.step (by omega) hxb (by rw [heg]; omega)
        rw [heg] at hI2
        have ed : (F + C) % 1000000000 = ((g k + 0 + c) % 1000000000 : Nat) ∧ (F + C) / 1000000000 = ((g k + 0 + c) / 1000000000 : Nat) := by have := HF.out; have := HC.out; omega
        have HE := Lib.hid ed
        clear heg h1 h2 ed hxb hI
        go_wp2_with (at_builtin; refine wpList_append_lies _ (by rfl) (.tmp 42) (.tmp 45) 112 (by rfl) w.heap.size 121 i0 _ 1 4 Tryz.underlying112 hi hz0 hz1 hz2 rfl (by omega) _ _ _ (by rfl) (World.ownsRow.alloc hown _) ⟨wr.heap.size, 0, none⟩ 1 1 [.int .u32 ((F + C) % 1000000000)] (by rfl) (by rfl) (World.news_of_block (heap_alloc_new wr _)) (by simp [Value.oneCell']) (by omega) (by unfold maxLen; omega) (by omega) (by simp; omega) (wr.heap.size + 1) (by simp) ?_; intro g' cap' w6 hown6 hgrow hat hlt6)
        rw [HE.out.1] at hown6
        have ho := OwnD.snoc (E := 121) hown6
        have hb6 : Below w.heap.size w w6 := (hb.alloc hb.size _).grown hgrow (by simp; omega) (fun q hq => (World.ownsRow.lt hown q hq).1)
        clear hown6 hgrow hat hown
        go_wp2_with fail
        go_roundg (m - (k + 1))
        case measure => have := HR.out; omega
        case rel => exact ⟨k + 1, _, _, L ++ [(g k + 0 + c) % 1000000000], by omega, rfl, by go_num, rfl, HE.out.2, by simp [HL.out], by simpa using ho, by rw [dl_snoc, HL.out]; exact hI2, hb6⟩
    · obtain rfl : k = m := by omega
      have hlast := hI.last (by omega)
      rw [nv_ext (Nat.le_of_lt hle)] at hlast
      have HLA := Lib.hid hlast
      clear hlast hI h1 h2
      go_wp2_with (at_builtin; refine wpList_append_lies _ (by rfl) (.tmp 48) (.tmp 50) 112 (by rfl) w.heap.size 121 i0 _ 1 4 Tryz.underlying112 hi hz0 hz1 hz2 rfl (by omega) _ _ _ (by rfl) (World.ownsRow.alloc hown _) ⟨wr.heap.size, 0, none⟩ 1 1 [.int .u32 C] (by rfl) (by rfl) (World.news_of_block (heap_alloc_new wr _)) (by simp [Value.oneCell']) (by omega) (by unfold maxLen; omega) (by omega) (by simp; omega) (wr.heap.size + 1) (by simp) ?_; intro g' cap' w6 hown6 hgrow hat hlt6)
      rw [HC.out] at hown6
      have ho := OwnD.snoc (E := 121) hown6
      have hb6 : Below w.heap.size w w6 := (hb.alloc hb.size _).grown hgrow (by simp; omega) (fun q hq => (World.ownsRow.lt hown q hq).1)
      clear hown6 hgrow hat hown
      obtain ⟨A', cap2, hsh, hcp, hcm⟩ := ho.shape
      injection hsh with _ _ hsh
      subst hsh
      have hrd := ho.rd.2
      rw [dl_snoc, HL.out, show (L ++ [c]).length = k + 1 by simp [HL.out]] at hrd
      have hcp' : k + 1 ≤ cap' := by have := HL.out; simp at hcp; omega
      rw [HL.out]
      refine (trim115 1000000000 (some ⟨g', 0, none⟩) (k + 1) cap' _ w6 hcp' hcm hrd HLA.out.2).mono ?_
      rintro e w7 ⟨v, rfl, hv, rfl⟩
      rw [HLA.out.1] at hv
      go_wp2_with fail
      go_ret
      exact ⟨_, rfl, hv, hb6⟩

theorem addNat63 (K : Nat) (v1 v2 : Value) (a b : Nat) (w : World) (hK : K ≤ 1048576) (s1 : Sm K a) (s2 : Sm K b) (h1 : NatV 1000000000 w v1 a) (h2 : NatV 1000000000 w v2 b) :
    Calls Tryz.prog 111 #[v1, v2] w fun e w' => ∃ v, e = .returned v ∧ NatV 1000000000 w' v (a + b) ∧ Below w.heap.size w w' := by
  obtain ⟨A1, n, c1, f, rfl, hc1, hm1, hr1, hd1, rfl⟩ := h1
  obtain ⟨A2, m, c2, g, rfl, hc2, hm2, hr2, hd2, rfl⟩ := h2
  have l1 := s1.len (by omega) hd1
  have l2 := s2.len (by omega) hd2
  by_cases h : n < m
  · have := addNat_lt A1 A2 n m c1 c2 f g w (by omega) (by omega) hr1 hr2 hd1.1 hd2.1 h
    rwa [Nat.add_comm] at this
  · exact addNat_ge A1 A2 n m c1 c2 f g w (by omega) (by omega) hr1 hr2 hd1.1 hd2.1 (by omega)

set_option maxRecDepth 100000 in
set_option maxHeartbeats 2000000 in
theorem subNat128 (K : Nat) (v1 v2 : Value) (a b : Nat) (w : World) (hK : K ≤ 1048576) (s1 : Sm K a) (hle : b ≤ a) (h1 : NatV 1000000000 w v1 a) (h2 : NatV 1000000000 w v2 b) :
    Calls Tryz.prog 130 #[v1, v2] w fun e w' => ∃ v, e = .returned v ∧ NatV 1000000000 w' v (a - b) ∧ Below w.heap.size w w' := by
  obtain ⟨A1, n, c1, f, rfl, hc1, hm1, hr1, hd1, rfl⟩ := h1
  obtain ⟨A2, m, c2, g, rfl, hc2, hm2, hr2, hd2, rfl⟩ := h2
  have l1 := s1.len (by omega) hd1
  have l2 : m ≤ n := len_le (by omega) hd2 (Nat.lt_of_le_of_lt hle hd1.lt)
  have hn : n ≤ 1048576 := by omega
  have hle' : nv 1000000000 (ext g m) n ≤ nv 1000000000 f n := by rw [nv_ext l2]; exact hle
  have hsub : nv 1000000000 f n - nv 1000000000 g m = nv 1000000000 f n - nv 1000000000 (ext g m) n := by rw [nv_ext l2]
  rw [hsub]
  have HLE := Lib.hid hle'
  have HD1 := Lib.hid hd1.1
  have HD2 := Lib.hid hd2.1
  clear hd1 hd2 hle' hle s1 hm1 hm2 hsub
  obtain ⟨i0, hi, hz0, hz1, hz2⟩ := info_parts infoU
  go_enter Tryz.func130, Tryz.ntmps130
  go_wp2_with (at_make; refine wpList_make_full _ rfl _ _ 112 rfl w.heap.size 121 i0 (.int .u32 0) 1 Tryz.underlying112 hi hz0 hz1 .i64 .i64 _ _ n rfl rfl (by first | rfl | omega) (by first | rfl | omega) (by rw [hz2]; omega) (by unfold maxLen; omega) (Nat.le_refl _) ?_; intro w0 hown0 hgrow0)
  have hb0 : Below w.heap.size w w0 := (Below.refl _ _).grown hgrow0 (Nat.le_refl _) (fun q hq => by cases hq)
  have ho0 := OwnD.made (E := 121) hown0
  clear hown0 hgrow0
  go_wp2_with fail
  go_loopg [15, 6, 7, 8, 9] n (fun r i cc _ _ _ wr => ∃ (k c : Nat) (C : Int) (L : List Nat), k ≤ n ∧ r = n - k ∧ i = .int .i64 k ∧ cc = .int .i64 C ∧ C = c ∧ L.length = n ∧ OwnD 121 wr w.heap.size (.slice (some ⟨w.heap.size, 0, none⟩) n n) L ∧ SubI 1000000000 f (ext g m) (dl L) k c ∧ Below w.heap.size w wr)
  case atStart => exact ⟨0, 0, 0, List.replicate n 0, Nat.zero_le _, rfl, rfl, rfl, rfl, by simp, ho0, SubI.zero, hb0⟩
  case round =>
    clear ho0 hb0
    obtain ⟨k, c, C, L, hk, hr, rfl, rfl, hC, hL, hown, hI, hb⟩ := hrel
    have hc1' := hI.c1
    have hCb : 0 ≤ C ∧ C ≤ 1 := by omega
    have HR := Lib.hid hr
    have HC := Lib.hid hC
    have HL := Lib.hid hL
    clear hr hC hL
    have hHw : w.heap.size ≤ wr.heap.size := hb.size
    by_cases hkn : k < n
    · obtain ⟨z0, z1, _, hlt0⟩ := hown.cell k (by rw [HL.out]; exact hkn)
      obtain ⟨b1, o1, rfl, hb1, hcell1⟩ := hr1 (by omega)
      have x0 := hcell1 k (by omega)
      replace x0 : wr.cell? ⟨b1, o1 + k, none⟩ = some (u32V (f k)) := by rw [← x0]; exact hb.cell (p := ⟨b1, o1 + k, none⟩) hb1
      have hxb0 : f k < 1000000000 := HD1.out k hkn
      obtain ⟨F, hF⟩ := letter (f k)
      have hFb : 0 ≤ F ∧ F < 1000000000 := by omega
      unfold u32V at x0
      rw [← hF] at x0
      have HF := Lib.hid hF
      have hlt : b1 < wr.heap.size := by omega
      clear hcell1 hF
      by_cases hkm : k < m
      · obtain ⟨b2, o2, rfl, hb2, hcell2⟩ := hr2 (by omega)
        have y0 := hcell2 k (by omega)
        replace y0 : wr.cell? ⟨b2, o2 + k, none⟩ = some (u32V (g k)) := by rw [← y0]; exact hb.cell (p := ⟨b2, o2 + k, none⟩) hb2
        have hyb : g k < 1000000000 := HD2.out k hkm
        have heg : ext g m k = g k := ext_lt hkm
        obtain ⟨G, hG⟩ := letter (g k)
        have hGb : 0 ≤ G ∧ G < 1000000000 := by omega
        unfold u32V at y0
        rw [← hG] at y0
        have HG := Lib.hid hG
        have hlt2 : b2 < wr.heap.size := by omega
        clear hcell2 hG hr1 hr2
        by_cases hneg : F - C - G < 0
        · have dn : decide (F - C - G < 0) = true := by simpa using hneg
          obtain ⟨x, hx⟩ : ∃ x : Nat, (x : Int) = F - C - G + 1000000000 := ⟨(F - C - G + 1000000000).toNat, by omega⟩
          have hxb : x < 1000000000 := by omega
          have hI2 := hI.step (x := x) (c' := 1) hxb (by omega) (by rw [heg]; have := HF.out; have := HC.out; have := HG.out; omega)
          have hset := hown.set k x
          unfold u32V at hset
          rw [hx] at hset
          have ew : IntKind.u32.wrap (F - C - G + 1000000000) = F - C - G + 1000000000 := IntWalk.u32_in _ (by omega)
          have HX := Lib.hid hx
          have HS := Lib.hid hset
          clear hx heg hI hset
          go_wp2_with fail
          go_roundg (n - (k + 1))
          case measure => have := HR.out; omega
          case rel => exact ⟨k + 1, 1, 1, L.set k x, by omega, rfl, by go_num, rfl, rfl, by rw [List.length_set]; exact HL.out, HS.out.1, by rw [dl_set (by rw [HL.out]; exact hkn)]; exact hI2, hb.setCell (Nat.le_refl _) _⟩
        · have dn : decide (F - C - G < 0) = false := by simpa using hneg
          obtain ⟨x, hx⟩ : ∃ x : Nat, (x : Int) = F - C - G := ⟨(F - C - G).toNat, by omega⟩
          have hxb : x < 1000000000 := by omega
          have hI2 := hI.step (x := x) (c' := 0) hxb (by omega) (by rw [heg]; have := HF.out; have := HC.out; have := HG.out; omega)
          have hset := hown.set k x
          unfold u32V at hset
          rw [hx] at hset
          have ew : IntKind.u32.wrap (F - C - G) = F - C - G := IntWalk.u32_in _ (by omega)
          have HX := Lib.hid hx
          have HS := Lib.hid hset
          clear hx heg hI hset
          go_wp2_with fail
          go_roundg (n - (k + 1))
          case measure => have := HR.out; omega
          case rel => exact ⟨k + 1, 0, 0, L.set k x, by omega, rfl, by go_num, rfl, rfl, by rw [List.length_set]; exact HL.out, HS.out.1, by rw [dl_set (by rw [HL.out]; exact hkn)]; exact hI2, hb.setCell (Nat.le_refl _) _⟩
      · have heg : ext g m k = 0 := ext_ge (by omega)
        clear hr1 hr2
        by_cases hneg : F - C < 0
        · have dn : decide (F - C < 0) = true := by simpa using hneg
          obtain ⟨x, hx⟩ : ∃ x : Nat, (x : Int) = F - C + 1000000000 := ⟨(F - C + 1000000000).toNat, by omega⟩
          have hxb : x < 1000000000 := by omega
          have hI2 := hI.step (x := x) (c' := 1) hxb (by omega) (by rw [heg]; have := HF.out; have := HC.out; omega)
          have hset := hown.set k x
          unfold u32V at hset
          rw [hx] at hset
          have ew : IntKind.u32.wrap (F - C + 1000000000) = F - C + 1000000000 := IntWalk.u32_in _ (by omega)
          have HX := Lib.hid hx
          have HS := Lib.hid hset
          clear hx heg hI hset
          go_wp2_with fail
          go_roundg (n - (k + 1))
          case measure => have := HR.out; omega
          case rel => exact ⟨k + 1, 1, 1, L.set k x, by omega, rfl, by go_num, rfl, rfl, by rw [List.length_set]; exact HL.out, HS.out.1, by rw [dl_set (by rw [HL.out]; exact hkn)]; exact hI2, hb.setCell (Nat.le_refl _) _⟩
        · have dn : decide (F - C < 0) = false := by simpa using hneg
          obtain ⟨x, hx⟩ : ∃ x : Nat, (x : Int) = F - C := ⟨(F - C).toNat, by omega⟩
          have hxb : x < 1000000000 := by omega
          have hI2 := hI.step (x := x) (c' := 0) hxb (by omega) (by rw [heg]; have := HF.out; have := HC.out; omega)
          have hset := hown.set k x
          unfold u32V at hset
          rw [hx] at hset
          have ew : IntKind.u32.wrap (F - C) = F - C := IntWalk.u32_in _ (by omega)
          have HX := Lib.hid hx
          have HS := Lib.hid hset
          clear hx heg hI hset
          go_wp2_with fail
          go_roundg (n - (k + 1))
          case measure => have := HR.out; omega
          case rel => exact ⟨k + 1, 0, 0, L.set k x, by omega, rfl, by go_num, rfl, rfl, by rw [List.length_set]; exact HL.out, HS.out.1, by rw [dl_set (by rw [HL.out]; exact hkn)]; exact hI2, hb.setCell (Nat.le_refl _) _⟩
    · obtain rfl : k = n := by omega
      have hdone := hI.done (by omega) HLE.out
      have hlt := hI.lt
      have HDN := Lib.hid hdone
      obtain ⟨hn2, hrd⟩ := hown.rd
      rw [HL.out] at hrd
      clear hdone hI hn2
      go_wp2_with fail
      refine (trim115 1000000000 _ k k _ wr (Nat.le_refl _) (by unfold maxLen; omega) hrd hlt).mono ?_
      rintro e w7 ⟨v, rfl, hv, rfl⟩
      rw [HDN.out.2] at hv
      go_wp2_with fail
      go_ret
      exact ⟨_, rfl, hv, hb⟩

theorem mul_bd {X Y M : Int} (h0 : 0 ≤ X) (h1 : X ≤ M) (k0 : 0 ≤ Y) (k1 : Y ≤ M) : 0 ≤ X * Y ∧ X * Y ≤ M * M :=
  ⟨Int.mul_nonneg h0 k0, Int.mul_le_mul h1 k1 k0 (by omega)⟩

set_option maxRecDepth 100000 in
set_option maxHeartbeats 4000000 in
theorem mulNat61 (K : Nat) (v1 v2 : Value) (a b : Nat) (w : World) (hK : K ≤ 1048576) (s1 : Sm K a) (s2 : Sm K b) (h1 : NatV 1000000000 w v1 a) (h2 : NatV 1000000000 w v2 b) :
    Calls Tryz.prog 110 #[v1, v2] w fun e w' => ∃ v, e = .returned v ∧ NatV 1000000000 w' v (a * b) ∧ Below w.heap.size w w' := by
  obtain ⟨A1, n, c1, f, rfl, hc1, hm1, hr1, hd1, rfl⟩ := h1
  obtain ⟨A2, m, c2, g, rfl, hc2, hm2, hr2, hd2, rfl⟩ := h2
  have l1 := s1.len (by omega) hd1
  have l2 := s2.len (by omega) hd2
  have hn : n ≤ 1048576 := by omega
  have hm : m ≤ 1048576 := by omega
  have HD1 := Lib.hid hd1.1
  have HD2 := Lib.hid hd2.1
  clear hd1 hd2 s1 s2 hm1 hm2 hc1 hc2 l1 l2 hK
  obtain ⟨i0, hi, hz0, hz1, hz2⟩ := info_parts infoU
  go_enter Tryz.func110, Tryz.ntmps110
  go_wp2_with (at_make; refine wpList_make_full _ rfl _ _ 112 rfl w.heap.size 121 i0 (.int .u32 0) 1 Tryz.underlying112 hi hz0 hz1 .i64 .i64 _ _ (n + m) rfl rfl (by first | rfl | omega) (by first | rfl | omega) (by rw [hz2]; omega) (by unfold maxLen; omega) (Nat.le_refl _) ?_; intro w0 hown0 hgrow0)
  have hb0 : Below w.heap.size w w0 := (Below.refl _ _).grown hgrow0 (Nat.le_refl _) (fun q hq => by cases hq)
  have ho0 := OwnD.made (E := 121) hown0
  clear hown0 hgrow0
  go_wp2_with fail
  go_loopg [20, 6, 7, 8, 9, 10, 11] n (fun r i _ _ _ _ _ _ wr => ∃ (k : Nat) (L : List Nat), k ≤ n ∧ r = n - k ∧ i = .int .i64 k ∧ L.length = n + m ∧ OwnD 121 wr w.heap.size (.slice (some ⟨w.heap.size, 0, none⟩) (n + m) (n + m)) L ∧ MulO 1000000000 f g (dl L) n m k ∧ Below w.heap.size w wr)
  case atStart => exact ⟨0, List.replicate (n + m) 0, Nat.zero_le _, rfl, rfl, by simp, ho0, MulO.start (by omega) (fun j hj => dl_replicate j hj), hb0⟩
  case round =>
    clear ho0 hb0
    obtain ⟨k, L, hk, hr, rfl, hL, hown, hO, hb⟩ := hrel
    have HR := Lib.hid hr
    have HL := Lib.hid hL
    clear hr hL
    have hHw : w.heap.size ≤ wr.heap.size := hb.size
    by_cases hkn : k < n
    · obtain ⟨b1, o1, rfl, hb1, hcell1⟩ := hr1 (by omega)
      have x0 := hcell1 k (by omega)
      replace x0 : wr.cell? ⟨b1, o1 + k, none⟩ = some (u32V (f k)) := by rw [← x0]; exact hb.cell (p := ⟨b1, o1 + k, none⟩) hb1
      have hxb0 : f k < 1000000000 := HD1.out k hkn
      obtain ⟨X, hX⟩ := letter (f k)
      have hXb : 0 ≤ X ∧ X ≤ 999999999 := by omega
      unfold u32V at x0
      rw [← hX] at x0
      have HX := Lib.hid hX
      have hlt : b1 < wr.heap.size := by omega
      clear hcell1 hX
      go_wp2_with fail
      obtain ⟨wo, hwo⟩ : ∃ wo : World, wo = wr := ⟨_, rfl⟩
      have hb' := hb
      have hown' := hown
      rw [← hwo] at hb' hown' ⊢
      clear hown hb x0 hlt hwo hHw
      have hI0 := hO.enter (by omega)
      clear hO
      have hI0' := Lib.hid hI0
      clear hI0
      go_loopg [27, 8, 9, 10, 11] m (fun r jv cc _ _ _ wr => ∃ (j c : Nat) (C : Int) (L' : List Nat), j ≤ m ∧ r = m - j ∧ jv = .int .i64 j ∧ cc = .int .u64 C ∧ C = c ∧ L'.length = n + m ∧ OwnD 121 wr w.heap.size (.slice (some ⟨w.heap.size, 0, none⟩) (n + m) (n + m)) L' ∧ MulI 1000000000 f g (dl L') n m k j c ∧ Below w.heap.size w wr)
      case atStart => exact ⟨0, 0, 0, L, Nat.zero_le _, rfl, rfl, rfl, rfl, HL.out, hown', hI0'.out, hb'⟩
      case round =>
        clear hown' hb'
        obtain ⟨j, c, C, L', hj, hr, rfl, rfl, hC, hL', hown, hI, hb⟩ := hrel
        have hcb := hI.c1
        have hCb : 0 ≤ C ∧ C ≤ 999999999 := by omega
        have HRi := Lib.hid hr
        have HC := Lib.hid hC
        have HLi := Lib.hid hL'
        clear hr hC hL'
        have hHw : w.heap.size ≤ wr.heap.size := hb.size
        by_cases hjm : j < m
        · obtain ⟨z0, z1, _, hlt0⟩ := hown.cell (k + j) (by rw [HLi.out]; omega)
          obtain ⟨b2, o2, rfl, hb2, hcell2⟩ := hr2 (by omega)
          have y0 := hcell2 j (by omega)
          replace y0 : wr.cell? ⟨b2, o2 + j, none⟩ = some (u32V (g j)) := by rw [← y0]; exact hb.cell (p := ⟨b2, o2 + j, none⟩) hb2
          have hyb : g j < 1000000000 := HD2.out j hjm
          have hob : dl L' (k + j) < 1000000000 := hI.lt (k + j) (by omega)
          obtain ⟨Y, hY⟩ := letter (g j)
          obtain ⟨O, hO⟩ := letter (dl L' (k + j))
          have hYb : 0 ≤ Y ∧ Y ≤ 999999999 := by omega
          have hOb : 0 ≤ O ∧ O ≤ 999999999 := by omega
          unfold u32V at y0 z0
          rw [← hY] at y0
          rw [← hO] at z0
          have hlt2 : b2 < wr.heap.size := by omega
          obtain ⟨hI2, hbig⟩ := hI.step (by omega) hkn hjm hxb0 hyb
          have hp := mul_bd hXb.1 hXb.2 hYb.1 hYb.2
          obtain ⟨P, hP⟩ : ∃ P : Int, X * Y = P := ⟨_, rfl⟩
          rw [hP] at hp
          have hPn : P = ((f k * g j : Nat) : Int) := by rw [← hP, HX.out, hY, Int.natCast_mul]
          have e1 : IntKind.u64.wrap (X * Y) = P := by rw [hP]; exact IntWalk.u64_in _ (by omega)
          obtain ⟨S, hS⟩ : ∃ S : Int, O + P + C = S := ⟨_, rfl⟩
          have e2 : IntKind.u64.wrap (O + P) = O + P := IntWalk.u64_in _ (by omega)
          have e3 : IntKind.u64.wrap (O + P + C) = S := by rw [hS]; exact IntWalk.u64_in _ (by omega)
          have hSb : 0 ≤ S ∧ S ≤ 999999999999999999 := by omega
          have ed : S % 1000000000 = ((dl L' (k + j) + f k * g j + c) % 1000000000 : Nat) ∧ S / 1000000000 = ((dl L' (k + j) + f k * g j + c) / 1000000000 : Nat) := by
            have := HC.out; omega
          have ew : IntKind.u32.wrap (S % 1000000000) = S % 1000000000 := IntWalk.u32_in _ (by omega)
          have hset := hown.set (k + j) ((dl L' (k + j) + f k * g j + c) % 1000000000)
          unfold u32V at hset
          rw [← ed.1] at hset
          have HS := Lib.hid hset
          have HE := Lib.hid ed.2
          clear hcell2 hY hO hP hPn hS ed hI hset hr1 hr2 hbig hob hyb hxb0 hp
          go_wp2_with fail
          go_roundg (m - (j + 1))
          case measure => have := HRi.out; omega
          case rel => exact ⟨j + 1, _, _, L'.set (k + j) ((dl L' (k + j) + f k * g j + c) % 1000000000), by omega, rfl, by go_num, rfl, HE.out, by rw [List.length_set]; exact HLi.out, HS.out.1, by rw [dl_set (by rw [HLi.out]; omega)]; exact hI2, hb.setCell (Nat.le_refl _) _⟩
        · obtain rfl : j = m := by omega
          obtain ⟨z0, z1, _, hlt0⟩ := hown.cell (k + j) (by rw [HLi.out]; omega)
          have hO2 := hI.last hkn
          have ew : IntKind.u32.wrap C = C := IntWalk.u32_in _ (by omega)
          have hset := hown.set (k + j) c
          unfold u32V at hset
          rw [← HC.out] at hset
          have HS := Lib.hid hset
          clear hI hset hr1 hr2 hxb0
          go_wp2_with fail
          go_roundg (n - (k + 1))
          case measure => have := HR.out; omega
          case rel => exact ⟨k + 1, L'.set (k + j) c, by omega, rfl, by go_num, by rw [List.length_set]; exact HLi.out, HS.out.1, by rw [dl_set (by rw [HLi.out]; omega)]; exact hO2, hb.setCell (Nat.le_refl _) _⟩
    · obtain rfl : k = n := by omega
      have hdone := Lib.hid hO.eq
      have hlt := hO.lt
      obtain ⟨hn2, hrd⟩ := hown.rd
      rw [HL.out] at hrd
      clear hO hn2
      go_wp2_with fail
      refine (trim115 1000000000 _ (k + m) (k + m) _ wr (Nat.le_refl _) (by unfold maxLen; omega) hrd hlt).mono ?_
      rintro e w7 ⟨v, rfl, hv, rfl⟩
      rw [hdone.out] at hv
      go_wp2_with fail
      go_ret
      exact ⟨_, rfl, hv, hb⟩

theorem OwnD.drewN {E : TypeId} {w : World} {B : Nat} {v : Value} {L : List Nat} (h : OwnD E w B v L) (k : Nat) : OwnD E (w.drewN k) B v L := h.below (below_drewN (Below.refl _ _) k)

set_option maxRecDepth 100000 in
set_option maxHeartbeats 4000000 in
theorem times124 (K : Nat) (v1 v2 : Value) (a b : Nat) (w : World) (hK : K ≤ 1048576) (s1 : Sm K a) (s2 : Sm K b) (h1 : NatV 4294967296 w v1 a) (h2 : NatV 4294967296 w v2 b) :
    Calls Tryz.prog 69 #[v1, v2] w fun e w' => ∃ v, e = .returned v ∧ NatV 4294967296 w' v (a * b) ∧ Below w.heap.size w w' := by
  obtain ⟨A1, n, c1, f, rfl, hc1, hm1, hr1, hd1, rfl⟩ := h1
  obtain ⟨A2, m, c2, g, rfl, hc2, hm2, hr2, hd2, rfl⟩ := h2
  have l1 := s1.len (by omega) hd1
  have l2 := s2.len (by omega) hd2
  have hn : n ≤ 1048576 := by omega
  have hm : m ≤ 1048576 := by omega
  have HD1 := Lib.hid hd1.1
  have HD2 := Lib.hid hd2.1
  clear hd1 hd2 s1 s2 hm1 hm2 hc1 hc2 l1 l2 hK
  obtain ⟨i0, hi, hz0, hz1, hz2⟩ := info_parts infoU
  go_enter Tryz.func69, Tryz.ntmps69
  go_wp2_with (at_make; refine wpList_make_full _ rfl _ _ 55 rfl w.heap.size 121 i0 (.int .u32 0) 1 Tryz.underlying55 hi hz0 hz1 .i64 .i64 _ _ (n + m) rfl rfl (by first | rfl | omega) (by first | rfl | omega) (by rw [hz2]; omega) (by unfold maxLen; omega) (Nat.le_refl _) ?_; intro w0 hown0 hgrow0)
  have hb0 : Below w.heap.size w w0 := (Below.refl _ _).grown hgrow0 (Nat.le_refl _) (fun q hq => by cases hq)
  have ho0 := OwnD.made (E := 121) hown0
  clear hown0 hgrow0
  go_wp2_with fail
  go_loopg [6, 7, 8, 9] n (fun r i _ _ _ wr => ∃ (k : Nat) (L : List Nat), k ≤ n ∧ r = n - k ∧ i = .int .i64 k ∧ L.length = n + m ∧ OwnD 121 wr w.heap.size (.slice (some ⟨w.heap.size, 0, none⟩) (n + m) (n + m)) L ∧ MulO 4294967296 f g (dl L) n m k ∧ Below w.heap.size w wr)
  case atStart => exact ⟨0, List.replicate (n + m) 0, Nat.zero_le _, rfl, rfl, by simp, ho0, MulO.start (by omega) (fun j hj => dl_replicate j hj), hb0⟩
  case round =>
    clear ho0 hb0
    obtain ⟨k, L, hk, hr, rfl, hL, hown, hO, hb⟩ := hrel
    have HR := Lib.hid hr
    have HL := Lib.hid hL
    clear hr hL
    have hHw : w.heap.size ≤ wr.heap.size := hb.size
    by_cases hkn : k < n
    · obtain ⟨b1, o1, rfl, hb1, hcell1⟩ := hr1 (by omega)
      have x0w := hcell1 k (by omega)
      have hxb0 : f k < 4294967296 := HD1.out k hkn
      obtain ⟨X, hX⟩ := letter (f k)
      have hXb : 0 ≤ X ∧ X ≤ 4294967295 := by omega
      unfold u32V at x0w
      rw [← hX] at x0w
      have HX := Lib.hid hX
      have X0 := Lib.hid x0w
      clear hcell1 hX x0w
      go_wp2_with fail
      obtain ⟨wo, hwo⟩ : ∃ wo : World, wo = wr := ⟨_, rfl⟩
      have hb' := hb
      have hown' := hown
      rw [← hwo] at hb' hown' ⊢
      clear hown hb hwo hHw
      have hI0 := hO.enter (by omega)
      clear hO
      have hI0' := Lib.hid hI0
      clear hI0
      go_loopg [8, 7, 9] m (fun r jv cc _ wr => ∃ (j c : Nat) (C : Int) (L' : List Nat), j ≤ m ∧ r = m - j ∧ jv = .int .i64 j ∧ cc = .int .u64 C ∧ C = c ∧ L'.length = n + m ∧ OwnD 121 wr w.heap.size (.slice (some ⟨w.heap.size, 0, none⟩) (n + m) (n + m)) L' ∧ MulI 4294967296 f g (dl L') n m k j c ∧ Below w.heap.size w wr)
      case atStart => exact ⟨0, 0, 0, L, Nat.zero_le _, rfl, rfl, rfl, rfl, HL.out, hown', hI0'.out, hb'⟩
      case round =>
        clear hown' hb'
        obtain ⟨j, c, C, L', hj, hr, rfl, rfl, hC, hL', hown, hI, hb⟩ := hrel
        have hcb := hI.c1
        have hCb : 0 ≤ C ∧ C ≤ 4294967295 := by omega
        have HRi := Lib.hid hr
        have HC := Lib.hid hC
        have HLi := Lib.hid hL'
        clear hr hC hL'
        have hHw : w.heap.size ≤ wr.heap.size := hb.size
        by_cases hjm : j < m
        · obtain ⟨z0, z1, _, hlt0⟩ := hown.cell (k + j) (by rw [HLi.out]; omega)
          obtain ⟨b2, o2, rfl, hb2, hcell2⟩ := hr2 (by omega)
          have y0 := hcell2 j (by omega)
          replace y0 : wr.cell? ⟨b2, o2 + j, none⟩ = some (u32V (g j)) := by rw [← y0]; exact hb.cell (p := ⟨b2, o2 + j, none⟩) hb2
          have x0 : wr.cell? ⟨b1, o1 + k, none⟩ = some (.int .u32 X) := by rw [← X0.out]; exact hb.cell (p := ⟨b1, o1 + k, none⟩) hb1
          have hyb : g j < 4294967296 := HD2.out j hjm
          have hob : dl L' (k + j) < 4294967296 := hI.lt (k + j) (by omega)
          obtain ⟨Y, hY⟩ := letter (g j)
          obtain ⟨O, hO⟩ := letter (dl L' (k + j))
          have hYb : 0 ≤ Y ∧ Y ≤ 4294967295 := by omega
          have hOb : 0 ≤ O ∧ O ≤ 4294967295 := by omega
          unfold u32V at y0 z0
          rw [← hY] at y0
          rw [← hO] at z0
          have hlt2 : b2 < wr.heap.size := by omega
          have hlt1 : b1 < wr.heap.size := by omega
          obtain ⟨hI2, hbig⟩ := hI.step (by omega) hkn hjm hxb0 hyb
          have hp := mul_bd hXb.1 hXb.2 hYb.1 hYb.2
          obtain ⟨P, hP⟩ : ∃ P : Int, X * Y = P := ⟨_, rfl⟩
          rw [hP] at hp
          have hPn : P = ((f k * g j : Nat) : Int) := by rw [← hP, HX.out, hY, Int.natCast_mul]
          have e1 : IntKind.u64.wrap (X * Y) = P := by rw [hP]; exact IntWalk.u64_in _ (by omega)
          obtain ⟨S, hS⟩ : ∃ S : Int, P + O + C = S := ⟨_, rfl⟩
          have e2 : IntKind.u64.wrap (P + O) = P + O := IntWalk.u64_in _ (by omega)
          have e3 : IntKind.u64.wrap (P + O + C) = S := by rw [hS]; exact IntWalk.u64_in _ (by omega)
          have hSb : 0 ≤ S ∧ S ≤ 18446744073709551615 := by omega
          have ed : S % 4294967296 = ((dl L' (k + j) + f k * g j + c) % 4294967296 : Nat) ∧ S / 4294967296 = ((dl L' (k + j) + f k * g j + c) / 4294967296 : Nat) := by
            have := HC.out; omega
          have ew : IntKind.u32.wrap S = S % 4294967296 := IntKind.wrap_u32 _
          have i1 : IntKind.i64.wrap ((k : Int) + (j : Int)) = (k : Int) + (j : Int) := IntWalk.i64_in _ (by omega)
          have i2 : (0 : Int) ≤ (k : Int) + (j : Int) := by omega
          have i3 : ((k : Int) + (j : Int)).toNat = k + j := by omega
          have hset := hown.set (k + j) ((dl L' (k + j) + f k * g j + c) % 4294967296)
          unfold u32V at hset
          rw [← ed.1] at hset
          have HS := Lib.hid hset
          have HE := Lib.hid ed.2
          clear hcell2 hY hO hP hPn hS ed hI hset hr1 hr2 hbig hob hyb hxb0 hp
          go_wp2_with fail
          go_quiet (fail)
          go_wp2_with fail
          go_roundg (m - (j + 1))
          case measure => have := HRi.out; omega
          case rel => exact ⟨j + 1, _, _, L'.set (k + j) ((dl L' (k + j) + f k * g j + c) % 4294967296), by omega, rfl, by go_num, rfl, HE.out, by rw [List.length_set]; exact HLi.out, HS.out.1.drewN _, by rw [dl_set (by rw [HLi.out]; omega)]; exact hI2, below_drewN (hb.setCell (Nat.le_refl _) _) _⟩
        · obtain rfl : j = m := by omega
          obtain ⟨z0, z1, _, hlt0⟩ := hown.cell (k + j) (by rw [HLi.out]; omega)
          have hO2 := hI.last hkn
          have ew : IntKind.u32.wrap C = C := IntWalk.u32_in _ (by omega)
          have hset := hown.set (k + j) c
          unfold u32V at hset
          rw [← HC.out] at hset
          have HS := Lib.hid hset
          clear hI hset hr1 hr2 hxb0
          go_wp2_with fail
          go_roundg (n - (k + 1))
          case measure => have := HR.out; omega
          case rel => exact ⟨k + 1, L'.set (k + j) c, by omega, rfl, by go_num, by rw [List.length_set]; exact HLi.out, HS.out.1, by rw [dl_set (by rw [HLi.out]; omega)]; exact hO2, hb.setCell (Nat.le_refl _) _⟩
    · obtain rfl : k = n := by omega
      have hdone := Lib.hid hO.eq
      have hlt := hO.lt
      obtain ⟨hn2, hrd⟩ := hown.rd
      rw [HL.out] at hrd
      clear hO hn2
      go_wp2_with fail
      refine (trim142 4294967296 _ (k + m) (k + m) _ wr (Nat.le_refl _) (by unfold maxLen; omega) hrd hlt).mono ?_
      rintro e w7 ⟨v, rfl, hv, rfl⟩
      rw [hdone.out] at hv
      go_wp2_with fail
      go_ret
      exact ⟨_, rfl, hv, hb⟩

theorem ext_bd' {B : Nat} {v : Nat → Nat} {n : Nat} (hB : 0 < B) (hv : ∀ j, j < n → v j < B) (i : Nat) : ext v n i < B := by
  unfold ext; split
  · exact hv i (by assumption)
  · exact hB

set_option maxRecDepth 100000 in
set_option maxHeartbeats 4000000 in
theorem plus121 (K : Nat) (v1 v2 : Value) (a b : Nat) (w : World) (hK : K ≤ 1048576) (s1 : Sm K a) (s2 : Sm K b) (h1 : NatV 4294967296 w v1 a) (h2 : NatV 4294967296 w v2 b) :
    Calls Tryz.prog 90 #[v1, v2] w fun e w' => ∃ v, e = .returned v ∧ NatV 4294967296 w' v (a + b) ∧ Below w.heap.size w w' := by
  obtain ⟨A1, n, c1, f, rfl, hc1, hm1, hr1, hd1, rfl⟩ := h1
  obtain ⟨A2, m, c2, g, rfl, hc2, hm2, hr2, hd2, rfl⟩ := h2
  have l1 := s1.len (by omega) hd1
  have l2 := s2.len (by omega) hd2
  have hn : n ≤ 1048576 := by omega
  have hm : m ≤ 1048576 := by omega
  have HD1 := Lib.hid hd1.1
  have HD2 := Lib.hid hd2.1
  have hmx : n ≤ max n m ∧ m ≤ max n m ∧ max n m ≤ 1048576 := by omega
  obtain ⟨M, hM⟩ : ∃ M, max n m = M := ⟨_, rfl⟩
  rw [hM] at hmx
  have HM := Lib.hid hM
  clear hd1 hd2 s1 s2 hm1 hm2 hc1 hc2 l1 l2 hK hM
  obtain ⟨i0, hi, hz0, hz1, hz2⟩ := info_parts infoU
  go_enter Tryz.func90, Tryz.ntmps90
  go_wp2_with fail
  go_loopg [7, 5, 6, 8] (M + 1) (fun r i v cc _ wr => ∃ (k c : Nat) (C : Int) (L : List Nat), k ≤ M + 1 ∧ (c = 1 → k ≤ M) ∧ r = M + 1 - k ∧ i = .int .i64 k ∧ cc = .int .u64 C ∧ C = c ∧ L.length = k ∧ OwnD 121 wr w.heap.size v L ∧ AddI 4294967296 (ext f n) (ext g m) (dl L) k c ∧ Below w.heap.size w wr)
  case atStart => exact ⟨0, 0, 0, [], Nat.zero_le _, fun h => by omega, rfl, rfl, rfl, rfl, rfl, OwnD.nil, AddI.zero, Below.refl _ _⟩
  case round =>
    obtain ⟨k, c, C, L, hk, hck, hr, rfl, rfl, hC, hL, hown, hI, hb⟩ := hrel
    have hc1 := hI.c1
    have hCb : 0 ≤ C ∧ C ≤ 1 := by omega
    have HR := Lib.hid hr
    have HC := Lib.hid hC
    have HL := Lib.hid hL
    have hLk : L.length ≤ 1048577 := by omega
    clear hr hC hL
    have hHw : w.heap.size ≤ wr.heap.size := hb.size
    obtain ⟨A, cap, rfl, hcap, _⟩ := hown.shape
    by_cases hgo : k < n ∨ k < m ∨ C = 1
    · have hkM : k ≤ M := by rcases hgo with h | h | h <;> first | omega | exact hck (by have := HC.out; omega)
      have g1 := digit143 A1 n c1 k f wr (by unfold maxLen; omega) (hr1.below hb) HD1.out (by unfold maxLen; omega)
      have g2 := digit143 A2 m c2 k g wr (by unfold maxLen; omega) (hr2.below hb) HD2.out (by unfold maxLen; omega)
      have hfb := ext_bd' (by omega) HD1.out k
      have hgb := ext_bd' (by omega) HD2.out k
      have hI2 := hI.step (by omega) hfb hgb
      have hlast : (ext f n k + ext g m k + c) / 4294967296 = 1 → k + 1 ≤ M := fun h => by
        refine Decidable.byContradiction fun hc => ?_
        have e1 : ext f n k = 0 := ext_ge (by omega)
        have e2 : ext g m k = 0 := ext_ge (by omega)
        rw [e1, e2] at h
        omega
      obtain ⟨F, hF⟩ := letter (ext f n k)
      obtain ⟨G, hG⟩ := letter (ext g m k)
      rw [← hF] at g1
      rw [← hG] at g2
      have hFb : 0 ≤ F ∧ F ≤ 4294967295 := by omega
      have hGb : 0 ≤ G ∧ G ≤ 4294967295 := by omega
      have ed : (F + G + C) % 4294967296 = ((ext f n k + ext g m k + c) % 4294967296 : Nat) ∧ (F + G + C) / 4294967296 = ((ext f n k + ext g m k + c) / 4294967296 : Nat) := by have := HC.out; omega
      have HE := Lib.hid ed
      have G1 := Lib.hid g1
      have G2 := Lib.hid g2
      have HLa := Lib.hid hlast
      have ew : IntKind.u32.wrap (F + G + C) = (F + G + C) % 4294967296 := IntKind.wrap_u32 _
      have hgo' := Lib.hid hgo
      clear ed g1 g2 hlast hF hG hI hfb hgb hr1 hr2 hck hgo
      by_cases q1 : k < n
      · have t1 : decide (k < n) = true := by simpa using q1
        clear q1
        go_wp2_with fail
        refine G1.out.mono ?_
        rintro e _ ⟨rfl, rfl⟩
        go_wp2_with fail
        refine G2.out.mono ?_
        rintro e _ ⟨rfl, rfl⟩
        go_wp2_with (at_builtin; refine wpList_append_lies _ (by rfl) (.tmp 34) (.tmp 37) 55 (by rfl) w.heap.size 121 i0 _ 1 4 Tryz.underlying55 hi hz0 hz1 hz2 rfl (by omega) _ _ _ (by rfl) (World.ownsRow.alloc hown _) ⟨wr.heap.size, 0, none⟩ 1 1 [.int .u32 ((F + G + C) % 4294967296)] (by rfl) (by rfl) (World.news_of_block (heap_alloc_new wr _)) (by simp [Value.oneCell']) (by omega) (by unfold maxLen; omega) (by omega) (by simp; omega) (wr.heap.size + 1) (by simp) ?_; intro g' cap' w6 hown6 hgrow hat hlt6)
        rw [HE.out.1] at hown6
        have ho := OwnD.snoc (E := 121) hown6
        have hb6 : Below w.heap.size w w6 := (hb.alloc hb.size _).grown hgrow (by simp; omega) (fun q hq => (World.ownsRow.lt hown q hq).1)
        clear hown6 hgrow hat hown
        go_wp2_with fail
        go_roundg (M + 1 - (k + 1))
        case measure => have := HR.out; omega
        case rel => exact ⟨k + 1, _, _, L ++ [(ext f n k + ext g m k + c) % 4294967296], by omega, HLa.out, rfl, by go_num, rfl, HE.out.2, by simp [HL.out], by simpa using ho, by rw [dl_snoc, HL.out]; exact hI2, hb6⟩
      · have t1 : decide (k < n) = false := by simpa using q1
        by_cases q2 : k < m
        · have t2 : decide (k < m) = true := by simpa using q2
          clear q1 q2
          go_wp2_with fail
          refine G1.out.mono ?_
          rintro e _ ⟨rfl, rfl⟩
          go_wp2_with fail
          refine G2.out.mono ?_
          rintro e _ ⟨rfl, rfl⟩
          go_wp2_with (at_builtin; refine wpList_append_lies _ (by rfl) (.tmp 34) (.tmp 37) 55 (by rfl) w.heap.size 121 i0 _ 1 4 Tryz.underlying55 hi hz0 hz1 hz2 rfl (by omega) _ _ _ (by rfl) (World.ownsRow.alloc hown _) ⟨wr.heap.size, 0, none⟩ 1 1 [.int .u32 ((F + G + C) % 4294967296)] (by rfl) (by rfl) (World.news_of_block (heap_alloc_new wr _)) (by simp [Value.oneCell']) (by omega) (by unfold maxLen; omega) (by omega) (by simp; omega) (wr.heap.size + 1) (by simp) ?_; intro g' cap' w6 hown6 hgrow hat hlt6)
          rw [HE.out.1] at hown6
          have ho := OwnD.snoc (E := 121) hown6
          have hb6 : Below w.heap.size w w6 := (hb.alloc hb.size _).grown hgrow (by simp; omega) (fun q hq => (World.ownsRow.lt hown q hq).1)
          clear hown6 hgrow hat hown
          go_wp2_with fail
          go_roundg (M + 1 - (k + 1))
          case measure => have := HR.out; omega
          case rel => exact ⟨k + 1, _, _, L ++ [(ext f n k + ext g m k + c) % 4294967296], by omega, HLa.out, rfl, by go_num, rfl, HE.out.2, by simp [HL.out], by simpa using ho, by rw [dl_snoc, HL.out]; exact hI2, hb6⟩
        · have t2 : decide (k < m) = false := by simpa using q2
          have t3 : decide (0 < C) = true := by have := hgo'.out; simp; omega
          clear q1 q2
          go_wp2_with fail
          refine G1.out.mono ?_
          rintro e _ ⟨rfl, rfl⟩
          go_wp2_with fail
          refine G2.out.mono ?_
          rintro e _ ⟨rfl, rfl⟩
          go_wp2_with (at_builtin; refine wpList_append_lies _ (by rfl) (.tmp 34) (.tmp 37) 55 (by rfl) w.heap.size 121 i0 _ 1 4 Tryz.underlying55 hi hz0 hz1 hz2 rfl (by omega) _ _ _ (by rfl) (World.ownsRow.alloc hown _) ⟨wr.heap.size, 0, none⟩ 1 1 [.int .u32 ((F + G + C) % 4294967296)] (by rfl) (by rfl) (World.news_of_block (heap_alloc_new wr _)) (by simp [Value.oneCell']) (by omega) (by unfold maxLen; omega) (by omega) (by simp; omega) (wr.heap.size + 1) (by simp) ?_; intro g' cap' w6 hown6 hgrow hat hlt6)
          rw [HE.out.1] at hown6
          have ho := OwnD.snoc (E := 121) hown6
          have hb6 : Below w.heap.size w w6 := (hb.alloc hb.size _).grown hgrow (by simp; omega) (fun q hq => (World.ownsRow.lt hown q hq).1)
          clear hown6 hgrow hat hown
          go_wp2_with fail
          go_roundg (M + 1 - (k + 1))
          case measure => have := HR.out; omega
          case rel => exact ⟨k + 1, _, _, L ++ [(ext f n k + ext g m k + c) % 4294967296], by omega, HLa.out, rfl, by go_num, rfl, HE.out.2, by simp [HL.out], by simpa using ho, by rw [dl_snoc, HL.out]; exact hI2, hb6⟩
    · obtain rfl : C = 0 := by omega
      have t1 : decide (k < n) = false := by simp; omega
      have t2 : decide (k < m) = false := by simp; omega
      have hc0 : c = 0 := by have := HC.out; omega
      subst hc0
      have hkk : n ≤ k ∧ m ≤ k := by omega
      have hv : nv 4294967296 (dl L) k = nv 4294967296 f n + nv 4294967296 g m := by
        have h := hI.eq
        rw [Nat.zero_mul, Nat.add_zero, nv_ext hkk.1, nv_ext hkk.2] at h
        exact h
      have hlt := hI.lt
      have HV := Lib.hid hv
      have hrd := hown.rd.2
      rw [HL.out] at hrd hcap
      clear hI hv hgo hkk hr1 hr2 hck
      rw [HL.out]
      go_wp2_with fail
      refine (trim142 4294967296 A k cap _ wr hcap (by assumption) hrd hlt).mono ?_
      rintro e w7 ⟨v, rfl, hv, rfl⟩
      rw [HV.out] at hv
      go_wp2_with fail
      go_ret
      exact ⟨_, rfl, hv, hb⟩

set_option maxRecDepth 100000 in
set_option maxHeartbeats 2000000 in
theorem minus129 (K : Nat) (v1 v2 : Value) (a b : Nat) (w : World) (hK : K ≤ 1048576) (s1 : Sm K a) (hle : b ≤ a) (h1 : NatV 4294967296 w v1 a) (h2 : NatV 4294967296 w v2 b) :
    Calls Tryz.prog 101 #[v1, v2] w fun e w' => ∃ v, e = .returned v ∧ NatN 4294967296 w.heap.size w' v (a - b) ∧ Below w.heap.size w w' := by
  obtain ⟨A1, n, c1, f, rfl, hc1, hm1, hr1, hd1, rfl⟩ := h1
  obtain ⟨A2, m, c2, g, rfl, hc2, hm2, hr2, hd2, rfl⟩ := h2
  have l1 := s1.len (by omega) hd1
  have l2 : m ≤ n := len_le (by omega) hd2 (Nat.lt_of_le_of_lt hle hd1.lt)
  have hn : n ≤ 1048576 := by omega
  have hle' : nv 4294967296 (ext g m) n ≤ nv 4294967296 f n := by rw [nv_ext l2]; exact hle
  have hsub : nv 4294967296 f n - nv 4294967296 g m = nv 4294967296 f n - nv 4294967296 (ext g m) n := by rw [nv_ext l2]
  rw [hsub]
  have HLE := Lib.hid hle'
  have HD1 := Lib.hid hd1.1
  have HD2 := Lib.hid hd2.1
  clear hd1 hd2 hle' hle s1 hm1 hm2 hsub
  obtain ⟨i0, hi, hz0, hz1, hz2⟩ := info_parts infoU
  go_enter Tryz.func101, Tryz.ntmps101
  go_wp2_with (at_make; refine wpList_make_full _ rfl _ _ 55 rfl w.heap.size 121 i0 (.int .u32 0) 1 Tryz.underlying55 hi hz0 hz1 .i64 .i64 _ _ n rfl rfl (by first | rfl | omega) (by first | rfl | omega) (by rw [hz2]; omega) (by unfold maxLen; omega) (Nat.le_refl _) ?_; intro w0 hown0 hgrow0)
  have hb0 : Below w.heap.size w w0 := (Below.refl _ _).grown hgrow0 (Nat.le_refl _) (fun q hq => by cases hq)
  have ho0 := OwnD.made (E := 121) hown0
  clear hown0 hgrow0
  go_wp2_with fail
  go_loopg [7, 6, 8] n (fun r i cc _ wr => ∃ (k c : Nat) (C : Int) (L : List Nat), k ≤ n ∧ r = n - k ∧ i = .int .i64 k ∧ cc = .int .u64 C ∧ C = c ∧ L.length = n ∧ OwnD 121 wr w.heap.size (.slice (some ⟨w.heap.size, 0, none⟩) n n) L ∧ SubI 4294967296 f (ext g m) (dl L) k c ∧ Below w.heap.size w wr)
  case atStart => exact ⟨0, 0, 0, List.replicate n 0, Nat.zero_le _, rfl, rfl, rfl, rfl, by simp, ho0, SubI.zero, hb0⟩
  case round =>
    clear ho0 hb0
    obtain ⟨k, c, C, L, hk, hr, rfl, rfl, hC, hL, hown, hI, hb⟩ := hrel
    have hc1' := hI.c1
    have hCb : 0 ≤ C ∧ C ≤ 1 := by omega
    have HR := Lib.hid hr
    have HC := Lib.hid hC
    have HL := Lib.hid hL
    clear hr hC hL
    have hHw : w.heap.size ≤ wr.heap.size := hb.size
    by_cases hkn : k < n
    · obtain ⟨z0, z1, _, hlt0⟩ := hown.cell k (by rw [HL.out]; exact hkn)
      have g1 := digit143 A1 n c1 k f wr (by unfold maxLen; omega) (hr1.below hb) HD1.out (by unfold maxLen; omega)
      have g2 := digit143 A2 m c2 k g wr (by unfold maxLen; omega) (hr2.below hb) HD2.out (by unfold maxLen; omega)
      rw [ext_lt hkn] at g1
      have hfb := HD1.out k hkn
      have hgb := ext_bd' (by omega) HD2.out k
      obtain ⟨F, hF⟩ := letter (f k)
      obtain ⟨G, hG⟩ := letter (ext g m k)
      rw [← hF] at g1
      rw [← hG] at g2
      have hFb : 0 ≤ F ∧ F ≤ 4294967295 := by omega
      have hGb : 0 ≤ G ∧ G ≤ 4294967295 := by omega
      have G1 := Lib.hid g1
      have G2 := Lib.hid g2
      have HF := Lib.hid hF
      have HG := Lib.hid hG
      obtain ⟨V1, hV1⟩ : ∃ V1, IntKind.u64.wrap (F - G) = V1 := ⟨_, rfl⟩
      obtain ⟨V2, hV2⟩ : ∃ V2, IntKind.u64.wrap (V1 - C) = V2 := ⟨_, rfl⟩
      have hV : V2 = (F - G - C) % 18446744073709551616 := by rw [← hV2, ← hV1, IntKind.wrap_u64, IntKind.wrap_u64]; omega
      have hV2b : 0 ≤ V2 ∧ V2 ≤ 18446744073709551615 := by omega
      have HV := Lib.hid hV
      clear g1 g2 hF hG hfb hgb hr1 hr2 hV
      by_cases hneg : F - G - C < 0
      · obtain ⟨x, hx⟩ : ∃ x : Nat, (x : Int) = F - G - C + 4294967296 := ⟨(F - G - C + 4294967296).toNat, by omega⟩
        have hxb : x < 4294967296 := by omega
        have hI2 := hI.step (x := x) (c' := 1) hxb (by omega) (by have := HF.out; have := HC.out; have := HG.out; omega)
        have hset := hown.set k x
        unfold u32V at hset
        have ex : V2 % 4294967296 = (x : Int) := by have := HV.out; omega
        have ec : V2 / 9223372036854775808 = 1 := by have := HV.out; omega
        rw [← ex] at hset
        have ew : IntKind.u32.wrap V2 = V2 % 4294967296 := IntKind.wrap_u32 _
        have EC := Lib.hid ec
        have HS := Lib.hid hset
        clear hx hI hset ex ec hxb hneg
        go_wp2_with fail
        refine G1.out.mono ?_
        rintro e _ ⟨rfl, rfl⟩
        go_wp2_with fail
        refine G2.out.mono ?_
        rintro e _ ⟨rfl, rfl⟩
        go_wp2_with fail
        go_roundg (n - (k + 1))
        case measure => have := HR.out; omega
        case rel => exact ⟨k + 1, 1, 1, L.set k x, by omega, rfl, by go_num, by rw [EC.out], rfl, by rw [List.length_set]; exact HL.out, HS.out.1, by rw [dl_set (by rw [HL.out]; exact hkn)]; exact hI2, hb.setCell (Nat.le_refl _) _⟩
      · obtain ⟨x, hx⟩ : ∃ x : Nat, (x : Int) = F - G - C := ⟨(F - G - C).toNat, by omega⟩
        have hxb : x < 4294967296 := by omega
        have hI2 := hI.step (x := x) (c' := 0) hxb (by omega) (by have := HF.out; have := HC.out; have := HG.out; omega)
        have hset := hown.set k x
        unfold u32V at hset
        have ex : V2 % 4294967296 = (x : Int) := by have := HV.out; omega
        have ec : V2 / 9223372036854775808 = 0 := by have := HV.out; omega
        rw [← ex] at hset
        have ew : IntKind.u32.wrap V2 = V2 % 4294967296 := IntKind.wrap_u32 _
        have EC := Lib.hid ec
        have HS := Lib.hid hset
        clear hx hI hset ex ec hxb hneg
        go_wp2_with fail
        refine G1.out.mono ?_
        rintro e _ ⟨rfl, rfl⟩
        go_wp2_with fail
        refine G2.out.mono ?_
        rintro e _ ⟨rfl, rfl⟩
        go_wp2_with fail
        go_roundg (n - (k + 1))
        case measure => have := HR.out; omega
        case rel => exact ⟨k + 1, 0, 0, L.set k x, by omega, rfl, by go_num, by rw [EC.out], rfl, by rw [List.length_set]; exact HL.out, HS.out.1, by rw [dl_set (by rw [HL.out]; exact hkn)]; exact hI2, hb.setCell (Nat.le_refl _) _⟩
    · obtain rfl : k = n := by omega
      have hdone := hI.done (by omega) HLE.out
      have hlt := hI.lt
      have HDN := Lib.hid hdone
      obtain ⟨hn2, hrd⟩ := hown.rd
      rw [HL.out] at hrd
      clear hdone hI hn2
      go_wp2_with fail
      refine (trim142 4294967296 _ k k _ wr (Nat.le_refl _) (by unfold maxLen; omega) hrd hlt).mono ?_
      rintro e w7 ⟨v, rfl, hv, rfl⟩
      rw [HDN.out.2] at hv
      go_wp2_with fail
      go_ret
      exact ⟨_, rfl, ⟨hv, fresh_at (Nat.le_refl _)⟩, hb⟩

theorem bits_or_u32_nat (a b : Nat) (ha : a < 4294967296) (hb : b < 4294967296) : bits .or .u32 (a : Int) (b : Int) = ((a ||| b : Nat) : Int) := by
  have hx : a ||| b < 2 ^ 32 := Nat.or_lt_two_pow (by omega) (by omega)
  have h1 : (BitVec.ofInt 32 (a : Int)).toNat = a := by
    rw [BitVec.ofInt_natCast, BitVec.toNat_ofNat]; exact Nat.mod_eq_of_lt (by omega)
  have h2 : (BitVec.ofInt 32 (b : Int)).toNat = b := by
    rw [BitVec.ofInt_natCast, BitVec.toNat_ofNat]; exact Nat.mod_eq_of_lt (by omega)
  show IntKind.u32.wrap ((BitVec.ofInt 32 (a : Int) ||| BitVec.ofInt 32 (b : Int)).toNat : Int) = _
  rw [BitVec.toNat_or, h1, h2, IntKind.wrap_u32]
  omega
theorem half_or {x y : Nat} (hx : x < 4294967296) : bits .or .u32 ((x : Int) / 2) (((y : Int) * 2147483648) % 4294967296) = ((x / 2 + y % 2 * 2147483648 : Nat) : Int) := by
  have h2 : x / 2 < 2 ^ 31 := by omega
  have h3 := Nat.shiftLeft_add_eq_or_of_lt h2 (y % 2)
  rw [Nat.shiftLeft_eq, show (2 : Nat) ^ 31 = 2147483648 from rfl, Nat.or_comm] at h3
  have h4 := bits_or_u32_nat (x / 2) (y % 2 * 2147483648) (by omega) (by omega)
  rw [← h3] at h4
  rw [show (x : Int) / 2 = ((x / 2 : Nat) : Int) by omega, show (y : Int) * 2147483648 % 4294967296 = ((y % 2 * 2147483648 : Nat) : Int) by omega, h4, Nat.add_comm]

set_option maxRecDepth 100000 in
set_option maxHeartbeats 2000000 in
theorem half141 (K : Nat) (v1 : Value) (a : Nat) (w : World) (hK : K ≤ 1048576) (s1 : Sm K a) (h1 : NatV 4294967296 w v1 a) :
    Calls Tryz.prog 121 #[v1] w fun e w' => ∃ v, e = .returned v ∧ NatN 4294967296 w.heap.size w' v (a / 2) ∧ Below w.heap.size w w' := by
  obtain ⟨A1, n, c1, f, rfl, hc1, hm1, hr1, hd1, rfl⟩ := h1
  have l1 := s1.len (by omega) hd1
  have hn : n ≤ 1048576 := by omega
  have HD1 := Lib.hid hd1.1
  clear hd1 s1 hm1
  obtain ⟨i0, hi, hz0, hz1, hz2⟩ := info_parts infoU
  go_enter Tryz.func121, Tryz.ntmps121
  go_wp2_with (at_make; refine wpList_make_full _ rfl _ _ 55 rfl w.heap.size 121 i0 (.int .u32 0) 1 Tryz.underlying55 hi hz0 hz1 .i64 .i64 _ _ n rfl rfl (by first | rfl | omega) (by first | rfl | omega) (by rw [hz2]; omega) (by unfold maxLen; omega) (Nat.le_refl _) ?_; intro w0 hown0 hgrow0)
  have hb0 : Below w.heap.size w w0 := (Below.refl _ _).grown hgrow0 (Nat.le_refl _) (fun q hq => by cases hq)
  have ho0 := OwnD.made (E := 121) hown0
  clear hown0 hgrow0
  go_wp2_with fail
  go_loopg [4] n (fun r i wr => ∃ (k : Nat) (L : List Nat), k ≤ n ∧ r = n - k ∧ i = .int .i64 k ∧ L.length = n ∧ OwnD 121 wr w.heap.size (.slice (some ⟨w.heap.size, 0, none⟩) n n) L ∧ (0 < n → HalfI (2 * 2147483648) f (dl L) n k) ∧ Below w.heap.size w wr)
  case atStart => exact ⟨0, List.replicate n 0, Nat.zero_le _, rfl, rfl, by simp, ho0, fun h => HalfI.start h, hb0⟩
  case round =>
    clear ho0 hb0
    obtain ⟨k, L, hk, hr, rfl, hL, hown, hI, hb⟩ := hrel
    have HR := Lib.hid hr
    have HL := Lib.hid hL
    clear hr hL
    have hHw : w.heap.size ≤ wr.heap.size := hb.size
    by_cases hkn : k < n
    · obtain ⟨z0, z1, _, hlt0⟩ := hown.cell k (by rw [HL.out]; exact hkn)
      obtain ⟨b1, o1, hA, hb1, hcell1⟩ := hr1 (by omega)
      have x0 := hcell1 k (by omega)
      replace x0 : wr.cell? ⟨b1, o1 + k, none⟩ = some (u32V (f k)) := by rw [← x0]; exact hb.cell (p := ⟨b1, o1 + k, none⟩) hb1
      have hfb := HD1.out k hkn
      have hgb := ext_bd' (by omega) HD1.out (k + 1)
      obtain ⟨hI2, hxb⟩ := (hI (by omega)).step hkn hfb
      have g2 := fun wx hrx => digit143 A1 n c1 (k + 1) f wx (by unfold maxLen; omega) hrx HD1.out (by unfold maxLen; omega)
      obtain ⟨F, hF⟩ := letter (f k)
      obtain ⟨G, hG⟩ := letter (ext f n (k + 1))
      unfold u32V at x0
      rw [← hF] at x0
      rw [← hG] at g2
      have hFb : 0 ≤ F ∧ F ≤ 4294967295 := by omega
      have hGb : 0 ≤ G ∧ G ≤ 4294967295 := by omega
      have hrd : RdD wr.drew A1 n f := hr1.below hb.drew
      subst hA
      have ek : ((k + 1 : Nat) : Int) = (k : Int) + 1 := by omega
      rw [ek] at g2
      clear ek
      have i1 : IntKind.i64.wrap ((k : Int) + 1) = (k : Int) + 1 := IntWalk.i64_in _ (by omega)
      have i2 : IntKind.u64.wrap (G * 2147483648) = G * 2147483648 := IntWalk.u64_in _ (by omega)
      have i3 : IntKind.u32.wrap (G * 2147483648) = (G * 2147483648) % 4294967296 := IntKind.wrap_u32 _
      have i4 : bits .or .u32 (F / 2) ((G * 2147483648) % 4294967296) = ((f k / 2 + ext f n (k + 1) % 2 * 2147483648 : Nat) : Int) := by rw [hF, hG]; exact half_or (by omega)
      obtain ⟨Z, hZ⟩ := letter (f k / 2 + ext f n (k + 1) % 2 * 2147483648)
      rw [← hZ] at i4
      have hset := hown.set k (f k / 2 + ext f n (k + 1) % 2 * 2147483648)
      unfold u32V at hset
      rw [← hZ] at hset
      have HS := Lib.hid hset
      have G2 := Lib.hid g2
      clear hset hZ
      have HF := Lib.hid hF
      have HG := Lib.hid hG
      have HRD := Lib.hid hrd
      have hlt : b1 < wr.heap.size := by omega
      clear g2 hF hG hr1 hcell1 hI hrd hfb hgb
      go_wp2_with fail
      go_region_with (go_at_call 122; with_reducible refine (G2.out _ HRD.out).mono ?_; rintro e _ ⟨rfl, rfl⟩)
      all_goals
        go_wp2_with fail
        go_roundg (n - (k + 1))
        case measure => have := HR.out; omega
        case rel => exact ⟨k + 1, L.set k (f k / 2 + ext f n (k + 1) % 2 * 2147483648), by omega, rfl, by go_num, by rw [List.length_set]; exact HL.out, HS.out.1.drewN 1, fun _ => by rw [dl_set (by rw [HL.out]; exact hkn)]; exact hI2, (hb.setCell (Nat.le_refl _) _).drew⟩
    · obtain rfl : k = n := by omega
      obtain ⟨hn2, hrd⟩ := hown.rd
      rw [HL.out] at hrd
      have hval : nv 4294967296 (dl L) k = nv 4294967296 f k / 2 := by
        by_cases h0 : k = 0
        · subst h0; simp [nv]
        · exact (hI (by omega)).done (by omega)
      have hlt : ∀ i, i < k → dl L i < 4294967296 := fun i hi => (hI (by omega)).lt i hi
      have HV := Lib.hid hval
      clear hI hn2 hval
      go_wp2_with fail
      refine (trim142 4294967296 _ k k _ wr (Nat.le_refl _) (by unfold maxLen; omega) hrd hlt).mono ?_
      rintro e w7 ⟨v, rfl, hv, rfl⟩
      rw [HV.out] at hv
      go_wp2_with fail
      go_ret
      exact ⟨_, rfl, ⟨hv, fresh_at (Nat.le_refl _)⟩, hb⟩

theorem bits_or_disj {x c e : Nat} (hc : c < 2 ^ e) (h : x * 2 ^ e + c < 18446744073709551616) : bits .or .u64 ((x * 2 ^ e : Nat) : Int) (c : Int) = ((x * 2 ^ e + c : Nat) : Int) := by
  have h3 := Nat.shiftLeft_add_eq_or_of_lt hc x
  rw [Nat.shiftLeft_eq] at h3
  rw [bits_or_u64_nat _ _ (by omega) (by omega), h3]

set_option maxRecDepth 100000 in
set_option maxHeartbeats 2000000 in
theorem shift140 (K : Nat) (v1 : Value) (a N : Nat) (w : World) (hK : K ≤ 1048576) (s1 : Sm K a) (hN : N ≤ 1048576) (h1 : NatV 4294967296 w v1 a) :
    Calls Tryz.prog 120 #[v1, .int .i64 N] w fun e w' => ∃ v, e = .returned v ∧ NatN 4294967296 w.heap.size w' v (a * 2 ^ N) ∧ Below w.heap.size w w' := by
  obtain ⟨A1, n, c1, f, rfl, hc1, hm1, hr1, hd1, rfl⟩ := h1
  have l1 := s1.len (by omega) hd1
  have hn : n ≤ 1048576 := by omega
  have HD1 := Lib.hid hd1.1
  have hpw : (4294967296 : Nat) ^ (N / 32) * 2 ^ (N % 32) = 2 ^ N := by
    rw [show (4294967296 : Nat) = 2 ^ 32 from rfl, ← Nat.pow_mul, ← Nat.pow_add]; congr 1; omega
  rw [← hpw]
  have hS : N / 32 ≤ 32768 := by omega
  have hE : N % 32 < 32 := by omega
  obtain ⟨i0, hi, hz0, hz1, hz2⟩ := info_parts infoU
  have q1 : (N : Int) / 32 = ((N / 32 : Nat) : Int) := by omega
  have q2 : (N : Int) % 32 = ((N % 32 : Nat) : Int) := by omega
  generalize N / 32 = S at *
  generalize N % 32 = E at *
  clear hd1 s1 hm1 hpw
  go_enter Tryz.func120, Tryz.ntmps120
  go_wp2_with (at_make; refine wpList_make_full _ rfl _ _ 55 rfl w.heap.size 121 i0 (.int .u32 0) 1 Tryz.underlying55 hi hz0 hz1 .i64 .i64 _ _ S rfl rfl (by first | rfl | omega) (by first | rfl | omega) (by rw [hz2]; omega) (by unfold maxLen; omega) (Nat.le_refl _) ?_; intro w0 hown0 hgrow0)
  have hb0 : Below w.heap.size w w0 := (Below.refl _ _).grown hgrow0 (Nat.le_refl _) (fun q hq => by cases hq)
  have ho0 := OwnD.made (E := 121) hown0
  clear hown0 hgrow0
  go_wp2_with fail
  go_loopg [7, 5, 6, 8] n (fun r i v cc _ wr => ∃ (k c : Nat) (C : Int) (L : List Nat), k ≤ n ∧ r = n - k ∧ i = .int .i64 k ∧ cc = .int .u64 C ∧ C = c ∧ L.length = S + k ∧ OwnD 121 wr w.heap.size v L ∧ ShI 4294967296 f (dl L) S E k c ∧ Below w.heap.size w wr)
  case atStart => exact ⟨0, 0, 0, List.replicate S 0, Nat.zero_le _, rfl, rfl, rfl, rfl, by simp, ho0, ShI.start (by omega) (fun j hj => dl_replicate j hj), hb0⟩
  case round =>
    clear ho0 hb0
    obtain ⟨k, c, C, L, hk, hr, rfl, rfl, hC, hL, hown, hI, hb⟩ := hrel
    have hcb := hI.cb
    have hE2 : (2 : Nat) ^ E ≤ 2147483648 := by
      have : (2 : Nat) ^ E ≤ 2 ^ 31 := Nat.pow_le_pow_right (by omega) (by omega)
      simpa using this
    have hCb : 0 ≤ C ∧ C ≤ 2147483647 := by omega
    have HR := Lib.hid hr
    have HC := Lib.hid hC
    have HL := Lib.hid hL
    have hLk : L.length ≤ 1081344 := by omega
    clear hr hC hL
    have hHw : w.heap.size ≤ wr.heap.size := hb.size
    obtain ⟨A, cap, rfl, hcap, _⟩ := hown.shape
    by_cases hkn : k < n
    · obtain ⟨b1, o1, rfl, hb1, hcell1⟩ := hr1 (by omega)
      have x0 := hcell1 k (by omega)
      replace x0 : wr.cell? ⟨b1, o1 + k, none⟩ = some (u32V (f k)) := by rw [← x0]; exact hb.cell (p := ⟨b1, o1 + k, none⟩) hb1
      have hfb := HD1.out k hkn
      have hI2 := hI.step (by omega) hfb
      obtain ⟨F, hF⟩ := letter (f k)
      unfold u32V at x0
      rw [← hF] at x0
      have hFb : 0 ≤ F ∧ F ≤ 4294967295 := by omega
      have hlt : b1 < wr.heap.size := by omega
      have hbig : f k * 2 ^ E ≤ 4294967295 * 2147483648 := Nat.mul_le_mul (by omega) hE2
      obtain ⟨P, hP⟩ := letter (f k * 2 ^ E)
      obtain ⟨Z, hZ⟩ := letter (f k * 2 ^ E + c)
      have e0 : F * 2 ^ E = P := by rw [hF, hP, Int.natCast_mul]; rfl
      have e1 : IntKind.u64.wrap (F * 2 ^ E) = P := by rw [e0]; exact IntWalk.u64_in _ (by omega)
      have e2 : bits .or .u64 P C = Z := by rw [hP, HC.out, hZ]; exact bits_or_disj hcb (by omega)
      have e3 : IntKind.u32.wrap Z = Z % 4294967296 := IntKind.wrap_u32 _
      have hZb : 0 ≤ Z ∧ Z ≤ 18446744073709551615 := by omega
      have ed : Z % 4294967296 = ((f k * 2 ^ E + c) % 4294967296 : Nat) ∧ Z / 4294967296 = ((f k * 2 ^ E + c) / 4294967296 : Nat) := by rw [hZ]; omega
      have HE := Lib.hid ed
      clear hcell1 hr1 hI hF hP hZ e0 ed hbig hfb hE2 hcb
      go_wp2_with (at_builtin; refine wpList_append_lies _ (by rfl) (.tmp 29) (.tmp 32) 55 (by rfl) w.heap.size 121 i0 _ 1 4 Tryz.underlying55 hi hz0 hz1 hz2 rfl (by omega) _ _ _ (by rfl) (World.ownsRow.alloc hown _) ⟨wr.heap.size, 0, none⟩ 1 1 [.int .u32 (Z % 4294967296)] (by rfl) (by rfl) (World.news_of_block (heap_alloc_new wr _)) (by simp [Value.oneCell']) (by omega) (by unfold maxLen; omega) (by omega) (by simp; omega) (wr.heap.size + 1) (by simp) ?_; intro g' cap' w6 hown6 hgrow hat hlt6)
      rw [HE.out.1] at hown6
      have ho := OwnD.snoc (E := 121) hown6
      have hb6 : Below w.heap.size w w6 := (hb.alloc hb.size _).grown hgrow (by simp; omega) (fun q hq => (World.ownsRow.lt hown q hq).1)
      clear hown6 hgrow hat hown
      go_wp2_with fail
      go_roundg (n - (k + 1))
      case measure => have := HR.out; omega
      case rel => exact ⟨k + 1, _, _, L ++ [(f k * 2 ^ E + c) % 4294967296], by omega, rfl, by go_num, rfl, HE.out.2, by simp [HL.out]; omega, by simpa using ho, by rw [dl_snoc, HL.out]; exact hI2, hb6⟩
    · obtain rfl : k = n := by omega
      have hlast := hI.last (by omega)
      have e3 : IntKind.u32.wrap C = C := IntWalk.u32_in _ (by omega)
      have HLA := Lib.hid hlast
      clear hlast hI hr1 hcb hE2
      go_wp2_with (at_builtin; refine wpList_append_lies _ (by rfl) (.tmp 36) (.tmp 39) 55 (by rfl) w.heap.size 121 i0 _ 1 4 Tryz.underlying55 hi hz0 hz1 hz2 rfl (by omega) _ _ _ (by rfl) (World.ownsRow.alloc hown _) ⟨wr.heap.size, 0, none⟩ 1 1 [.int .u32 C] (by rfl) (by rfl) (World.news_of_block (heap_alloc_new wr _)) (by simp [Value.oneCell']) (by omega) (by unfold maxLen; omega) (by omega) (by simp; omega) (wr.heap.size + 1) (by simp) ?_; intro g' cap' w6 hown6 hgrow hat hlt6)
      rw [HC.out] at hown6
      have ho := OwnD.snoc (E := 121) hown6
      have hb6 : Below w.heap.size w w6 := (hb.alloc hb.size _).grown hgrow (by simp; omega) (fun q hq => (World.ownsRow.lt hown q hq).1)
      clear hown6 hgrow hat hown
      obtain ⟨A', cap2, hsh, hcp, hcm⟩ := ho.shape
      injection hsh with hA9 _ hsh
      subst hA9
      subst hsh
      have hrd := ho.rd.2
      rw [dl_snoc, HL.out, show (L ++ [c]).length = S + k + 1 by simp [HL.out]] at hrd
      have hcp' : S + k + 1 ≤ cap' := by have := HL.out; simp at hcp; omega
      rw [HL.out]
      refine (trim142 4294967296 (some ⟨g', 0, none⟩) (S + k + 1) cap' _ w6 hcp' hcm hrd HLA.out.2).mono ?_
      rintro e w7 ⟨v, rfl, hv, rfl⟩
      rw [HLA.out.1] at hv
      go_wp2_with fail
      go_ret
      exact ⟨.slice (some ⟨g', 0, none⟩) v cap', rfl, ⟨hv, fresh_at (World.ownsRow.lt ho g' rfl).1⟩, hb6⟩

set_option maxRecDepth 100000 in
set_option maxHeartbeats 1000000 in
theorem bits139 (K : Nat) (v1 : Value) (a : Nat) (w : World) (hK : K ≤ 1048576) (s1 : Sm K a) (h1 : NatV 4294967296 w v1 a) :
    Calls Tryz.prog 119 #[v1] w fun e w' => e = .returned (.int .i64 (bitsN a)) ∧ w = w' := by
  obtain ⟨A1, n, c1, f, rfl, hc1, hm1, hr1, hd1, rfl⟩ := h1
  have l1 := s1.len (by omega) hd1
  have hn : n ≤ 1048576 := by omega
  cases n with
  | zero =>
    go_enter Tryz.func119, Tryz.ntmps119
    go_wp2_with fail
    go_ret
    exact ⟨rfl, rfl⟩
  | succ n =>
    have hbits := bitsN_nv hd1 (by omega)
    rw [Nat.add_sub_cancel] at hbits
    have htop := hd1.1 n (by omega)
    obtain ⟨b1, o1, rfl, hb1, hcell1⟩ := hr1 (by omega)
    have x0 := hcell1 n (by omega)
    have ei : ((n + 1 : Nat) : Int) - 1 = (n : Int) := by omega
    have hne : (((n + 1 : Nat) : Int) == 0) = false := by rw [beq_eq_false_iff_ne]; omega
    have HB := Lib.hid hbits
    have hd0 : bitsN (f n) ≤ 32 := bitsN_le_of htop
    have HD := Lib.hid hd0
    clear hbits hcell1 hr1 hd1 s1 hd0
    go_enter Tryz.func119, Tryz.ntmps119
    go_wp2_with fail
    go_loopg [3, 4] (f n) (fun r cn t wr => ∃ (k : Nat) (X c : Int), r = k ∧ X = k ∧ k < 4294967296 ∧ t = .int .u32 X ∧ cn = .int .i64 c ∧ c + bitsN k = 32 * n + bitsN (f n) ∧ 0 ≤ c ∧ c ≤ 100000000 ∧ w = wr)
    case atStart => exact ⟨f n, (f n : Nat), 32 * n, rfl, rfl, htop, rfl, by go_num, rfl, by omega, by omega, rfl⟩
    case round =>
      obtain ⟨k, X, c, hr, hX, hk, rfl, rfl, hc, hc0, hcb, rfl⟩ := hrel
      have hXb : 0 ≤ X ∧ X ≤ 4294967295 := by omega
      have HR := Lib.hid hr
      have HX := Lib.hid hX
      have HC := Lib.hid hc
      clear hr hX hc
      by_cases h0 : 0 < X
      · have hh := bitsN_half (n := k) (by have := HX.out; omega)
        have HH := Lib.hid hh
        clear hh
        have hcc : c + 1 ≤ 100000000 := by have := HC.out; have := HH.out; have := HD.out; omega
        go_wp2_with fail
        go_roundg (k / 2)
        case measure => have := HR.out; have := HX.out; omega
        case rel => exact ⟨k / 2, X / 2, c + 1, rfl, by have := HX.out; omega, by omega, rfl, rfl, by have := HC.out; have := HH.out; omega, by omega, hcc, rfl⟩
      · have e0 : k = 0 := by have := HX.out; omega
        have ec : c = (bitsN (nv 4294967296 f (n + 1)) : Int) := by
          have := HC.out
          rw [e0, bitsN_zero] at this
          rw [HB.out]; omega
        have EC := Lib.hid ec
        clear ec e0
        go_wp2_with fail
        go_ret
        exact ⟨by rw [← EC.out]; rfl, rfl⟩

theorem cmpI_ge {a b : Nat} (h : b ≤ a) : 0 ≤ cmpI a b := by
  unfold cmpI
  rw [if_neg (by omega)]
  split <;> decide
/-- A number that does not lie in block G. -/
def NatX (B G : Nat) (w : World) (v : Value) (x : Nat) : Prop := ∃ A n c f, v = .slice A n c ∧ n ≤ c ∧ c ≤ maxLen ∧ (RdD w A n f ∧ (0 < n → ∀ ad, A = some ad → ad.block ≠ G)) ∧ Dig B f n ∧ nv B f n = x
theorem NatX.nat {B G : Nat} {w : World} {v : Value} {x : Nat} (h : NatX B G w v x) : NatV B w v x := by
  obtain ⟨A, n, c, f, hv, hc, hm, hr, hd, hx⟩ := h
  exact ⟨A, n, c, f, hv, hc, hm, hr.1, hd, hx⟩
theorem NatX.below {B G : Nat} {w w' : World} {v : Value} {x : Nat} (h : NatX B G w v x) (hb : Below w.heap.size w w') : NatX B G w' v x := by
  obtain ⟨A, n, c, f, hv, hc, hm, hr, hd, hx⟩ := h
  exact ⟨A, n, c, f, hv, hc, hm, ⟨hr.1.below hb, hr.2⟩, hd, hx⟩
theorem NatX.set {B G j : Nat} {w : World} {v u : Value} {x : Nat} (h : NatX B G w v x) : NatX B G (w.setCell ⟨G, j, none⟩ u) v x := by
  obtain ⟨A, n, c, f, hv, hc, hm, hr, hd, hx⟩ := h
  refine ⟨A, n, c, f, hv, hc, hm, ⟨fun h0 => ?_, hr.2⟩, hd, hx⟩
  obtain ⟨b, off, hA, hb, hcell⟩ := hr.1 h0
  have hne := hr.2 h0 _ hA
  refine ⟨b, off, hA, by simpa [World.setCell] using hb, fun i hi => ?_⟩
  rw [← hcell i hi]
  have := Below.heap_setCell w ⟨G, j, none⟩ u b hne
  simp only [World.cell?, this]
theorem NatX.of_old {B G : Nat} {w : World} {v : Value} {x : Nat} (h : NatV B w v x) (hG : w.heap.size ≤ G) : NatX B G w v x := by
  obtain ⟨A, n, c, f, hv, hc, hm, hr, hd, hx⟩ := h
  refine ⟨A, n, c, f, hv, hc, hm, ⟨hr, fun h0 ad hA => ?_⟩, hd, hx⟩
  obtain ⟨b, off, hA', hb, _⟩ := hr h0
  rw [hA] at hA'
  injection hA' with hA'
  rw [hA']
  show b ≠ G
  omega
theorem NatX.of_new {B G H : Nat} {w : World} {v : Value} {x : Nat} (h : NatN B H w v x) (hG : G < H) : NatX B G w v x := by
  obtain ⟨⟨A, n, c, f, hv, hc, hm, hr, hd, hx⟩, hN⟩ := h
  refine ⟨A, n, c, f, hv, hc, hm, ⟨hr, fun h0 ad hA => ?_⟩, hd, hx⟩
  subst hv
  subst hA
  have := hN ad.block rfl
  omega
theorem NatX.drewN {B G : Nat} {w : World} {v : Value} {x : Nat} (h : NatX B G w v x) (k : Nat) : NatX B G (w.drewN k) v x := h.below (below_drewN (Below.refl _ _) k)

set_option maxRecDepth 100000 in
set_option maxHeartbeats 4000000 in
theorem divide120 (K : Nat) (v1 v2 : Value) (a b : Nat) (w : World) (hK : K ≤ 500000) (s1 : Sm K a) (s2 : Sm K b) (hb0 : b ≠ 0) (h1 : NatV 4294967296 w v1 a) (h2 : NatV 4294967296 w v2 b) :
    Calls Tryz.prog 89 #[v1, v2] w fun e w' => ∃ q r, e = .returned (.tuple #[q, r]) ∧ NatV 4294967296 w' q (a / b) ∧ NatV 4294967296 w' r (a % b) ∧ Below w.heap.size w w' := by
  have g1 := bits139 K v1 a w (by omega) s1 h1
  have g2 := bits139 K v2 b w (by omega) s2 h2
  have l1 : bitsN a ≤ K := bitsN_le_of s1
  have l2 : bitsN b ≤ K := bitsN_le_of s2
  by_cases hlt : bitsN a < bitsN b
  · have hab := dh_less hlt
    have e1 := Lib.hid (Nat.div_eq_of_lt hab)
    have e2 := Lib.hid (Nat.mod_eq_of_lt hab)
    have d1 : decide ((bitsN a : Int) - (bitsN b : Int) < 0) = true := by simp; omega
    clear hab
    go_enter Tryz.func89, Tryz.ntmps89
    go_wp2_with fail
    refine g1.mono ?_
    rintro e _ ⟨rfl, rfl⟩
    go_wp2_with fail
    refine g2.mono ?_
    rintro e _ ⟨rfl, rfl⟩
    go_wp2_with fail
    go_ret2
    exact ⟨_, _, rfl, by rw [e1.out]; exact NatV.nil, by rw [e2.out]; exact h1, Below.refl _ _⟩
  · have hA := dh_bits hb0 (Nat.not_lt.1 hlt)
    obtain ⟨N, hN⟩ : ∃ N, bitsN a - bitsN b = N := ⟨_, rfl⟩
    rw [hN] at hA
    have hNK : N ≤ K := by omega
    have eN : (bitsN a : Int) - (bitsN b : Int) = (N : Int) := by omega
    have HA := Lib.hid hA
    obtain ⟨i0, hi, hz0, hz1, hz2⟩ := info_parts infoU
    clear hA hlt hN
    generalize bitsN a = ba at *
    generalize bitsN b = bb at *
    go_enter Tryz.func89, Tryz.ntmps89
    go_wp2_with fail
    refine g1.mono ?_
    rintro e _ ⟨rfl, rfl⟩
    go_wp2_with fail
    refine g2.mono ?_
    rintro e _ ⟨rfl, rfl⟩
    clear g1 g2
    have eM : (N : Int) / 32 + 1 = ((N / 32 + 1 : Nat) : Int) := by omega
    obtain ⟨M, hM⟩ : ∃ M, N / 32 + 1 = M := ⟨_, rfl⟩
    rw [hM] at eM
    have hMb : M ≤ 500000 := by omega
    have HM := Lib.hid hM
    clear hM
    go_wp2_with (at_make; refine wpList_make_full _ rfl _ _ 55 rfl w.heap.size 121 i0 (.int .u32 0) 1 Tryz.underlying55 hi hz0 hz1 .i64 .i64 _ _ M rfl rfl (by first | rfl | omega) (by first | rfl | omega) (by rw [hz2]; omega) (by unfold maxLen; omega) (Nat.le_refl _) ?_; intro w0 hown0 hgrow0)
    have hb0' : Below w.heap.size w w0 := (Below.refl _ _).grown hgrow0 (Nat.le_refl _) (fun q hq => by cases hq)
    have ho0 := OwnD.made (E := 121) hown0
    have hlt0 : w.heap.size < w0.heap.size := by
      by_cases hM0 : 0 < M
      · exact (ho0.cell 0 (by simpa using hM0)).2.2.2
      · have := HM.out; omega
    have ha0 := (NatX.of_old (G := w.heap.size) h1 (Nat.le_refl _)).below hb0'
    have hb1 := (NatX.of_old (G := w.heap.size) h2 (Nat.le_refl _)).below hb0'
    clear hown0 hgrow0 eM
    go_wp2_with fail
    refine (shift140 K v2 b N w0 (by omega) s2 (by omega) hb1.nat).mono ?_
    rintro e w1 ⟨v8, rfl, hn8, hb1'⟩
    have hx8 := NatX.of_new hn8 hlt0
    have hbw := below_trans' hb0' hb0'.size hb1'
    have ho1 := ho0.below hb1'
    have ha1 := ha0.below hb1'
    have hlt1 : w.heap.size < w1.heap.size := Nat.lt_of_lt_of_le hlt0 hb1'.size
    have hS8 : Sm (K + K + 1) (b * 2 ^ N) := (s2.mul (m := N + 1) (Nat.pow_lt_pow_right (by omega) (by omega))).mono (by omega)
    clear hn8 hb0' ho0 ha0 hb1 hb1' hlt0
    go_wp2_with fail
    go_loopg [9, 0, 8] (N + 1) (fun r i va vd wr => ∃ (t ac dc : Nat) (L : List Nat), t ≤ N + 1 ∧ r = t ∧ i = .int .i64 ((t : Int) - 1) ∧ NatX 4294967296 w.heap.size wr va ac ∧ NatX 4294967296 w.heap.size wr vd dc ∧ Sm K ac ∧ Sm (K + K + 1) dc ∧ L.length = M ∧ OwnD 121 wr w.heap.size (.slice (some ⟨w.heap.size, 0, none⟩) M M) L ∧ DhI a b ac dc (dl L) M t ∧ Below w.heap.size w wr ∧ w.heap.size < wr.heap.size)
    case atStart => exact ⟨N + 1, a, b * 2 ^ N, List.replicate M 0, Nat.le_refl _, rfl, by go_num, ha1, hx8, s1, hS8, by simp, ho1, by rw [Nat.mul_comm]; exact DhI.start HA.out (fun j hj => dl_replicate j hj), hbw, hlt1⟩
    case round =>
      clear ho1 ha1 hx8 hbw hlt1 hS8
      obtain ⟨t, ac, dc, L, ht, hr, rfl, hxa, hxd, sa, sd, hL, hown, hI, hb, hG⟩ := hrel
      have HR := Lib.hid hr
      have HL := Lib.hid hL
      clear hr hL
      cases t with
      | zero =>
        obtain ⟨k1, k2⟩ := hI.done
        have K1 := Lib.hid k1
        have K2 := Lib.hid k2
        obtain ⟨hn2, hrd⟩ := hown.rd
        rw [HL.out] at hrd
        have hlt : ∀ i, i < M → dl L i < 4294967296 := fun i hi => (hI.qd i hi).1
        clear hI k1 k2 hn2
        go_wp2_with fail
        refine (trim142 4294967296 _ M M _ wr (Nat.le_refl _) (by unfold maxLen; omega) hrd hlt).mono ?_
        rintro e w7 ⟨v, rfl, hv, rfl⟩
        rw [K1.out] at hv
        have hva := hxa.nat
        rw [K2.out] at hva
        go_wp2_with fail
        go_ret2
        exact ⟨_, _, rfl, hv, hva, hb⟩
      | succ t =>
        have ei : ((t + 1 : Nat) : Int) - 1 = (t : Int) := by omega
        rw [ei]
        have htM : t / 32 < M := by have := HM.out; omega
        obtain ⟨q, hq⟩ : ∃ q : Int, cmpI ac dc = q := ⟨_, rfl⟩
        have hcmp := compare119 4294967296 (by omega) _ _ ac dc wr hxa.nat hxd.nat
        rw [hq] at hcmp
        clear ei
        by_cases hle : dc ≤ ac
        · have dq : decide (0 ≤ q) = true := by
            have := cmpI_ge hle
            rw [hq] at this
            simpa using this
          obtain ⟨hor, hlt, hI2⟩ := hI.more hle htM
          have h32 : t % 32 < 32 := Nat.mod_lt _ (by omega)
          have q1 : (t : Int) / 32 = ((t / 32 : Nat) : Int) := by omega
          have q2 : (t : Int) % 32 = ((t % 32 : Nat) : Int) := by omega
          obtain ⟨S, hS⟩ : ∃ S, t / 32 = S := ⟨_, rfl⟩
          obtain ⟨E, hE⟩ : ∃ E, t % 32 = E := ⟨_, rfl⟩
          rw [hS] at hor hlt hI2 q1 htM
          rw [hE] at hor hlt hI2 q2 h32
          clear hS hE
          have hE2 : (2 : Nat) ^ E < 4294967296 := Nat.pow_lt_pow_right (n := 32) (by omega) h32
          obtain ⟨p, hp⟩ : ∃ p : Nat, 2 ^ E = p := ⟨_, rfl⟩
          rw [hp] at hor hlt hI2 hE2
          obtain ⟨Y, hY⟩ := letter (dl L S)
          obtain ⟨P, hP⟩ := letter p
          obtain ⟨Z, hZ⟩ := letter (dl L S + p)
          have e0 : (2 : Int) ^ E = P := by rw [hP, ← hp, Int.natCast_pow]; rfl
          have e1 : IntKind.u32.wrap P = P := IntWalk.u32_in _ (by omega)
          have e2 : bits .or .u32 Y P = Z := by rw [hY, hP, hZ, ← hor]; exact bits_or_u32_nat _ _ (by omega) (by omega)
          have HZ := Lib.hid hZ
          have HI2 := Lib.hid hI2
          have HY := Lib.hid hY
          have HLE := Lib.hid hle
          clear hI hor hY hP hZ hq hI2 hle hp hE2
          go_wp2_with fail
          refine hcmp.mono ?_
          rintro e _ ⟨rfl, k, rfl⟩
          go_wp2_with fail
          refine (minus129 K _ _ ac dc _ (by omega) sa HLE.out (hxa.drewN k).nat (hxd.drewN k).nat).mono ?_
          rintro e w2 ⟨va', rfl, hna, hb2⟩
          have hxa2 := NatX.of_new hna hG
          have hxd2 := (hxd.drewN k).below hb2
          have hown2 := (hown.drewN k).below hb2
          have hbw2 := below_trans' (below_drewN hb k) hb.size hb2
          have hG2 : w.heap.size < w2.heap.size := Nat.lt_of_lt_of_le hG hb2.size
          obtain ⟨z0, z1, _, hlt0⟩ := hown2.cell S (by rw [HL.out]; exact htM)
          unfold u32V at z0
          rw [← HY.out] at z0
          have hset := hown2.set S (dl L S + p)
          unfold u32V at hset
          rw [← HZ.out] at hset
          have HS := Lib.hid hset
          clear hset hna hb2 hown2 hxa hxd hown hb hG hcmp
          go_wp2_with fail
          refine (half141 (K + K + 1) _ dc _ (by omega) sd (NatX.set hxd2).nat).mono ?_
          rintro e w3 ⟨vd', rfl, hnd, hb3⟩
          have hxd3 := NatX.of_new hnd (by simpa [World.setCell] using hG2)
          have hxa3 := (NatX.set hxa2 (j := S) (u := .int .u32 Z)).below hb3
          have hown3 := HS.out.1.below hb3
          have hbw3 := below_trans' (hbw2.setCell (p := ⟨w.heap.size, S, none⟩) (Nat.le_refl _) (.int .u32 Z)) (by simpa [World.setCell] using Nat.le_of_lt hG2) hb3
          have hG3 : w.heap.size < w3.heap.size := Nat.lt_of_lt_of_le (by simpa [World.setCell] using hG2) hb3.size
          clear hnd hb3 hxa2 hxd2 hbw2 hG2 z0 z1 hlt0
          go_wp2_with fail
          go_roundg t
          case measure => have := HR.out; omega
          case rel => exact ⟨t, ac - dc, dc / 2, L.set S (dl L S + p), by omega, rfl, rfl, hxa3, hxd3, sa.le (Nat.sub_le _ _), sd.le (Nat.div_le_self _ _), by rw [List.length_set]; exact HL.out, hown3, by rw [dl_set (by rw [HL.out]; exact htM)]; exact HI2.out, hbw3, hG3⟩
        · have dq : decide (0 ≤ q) = false := by
            have := cmpI_lt (show ac < dc by omega)
            rw [hq] at this
            subst this; rfl
          have hI2 := hI.less (by omega)
          have HI2 := Lib.hid hI2
          clear hI hq hI2 hle htM
          go_wp2_with fail
          refine hcmp.mono ?_
          rintro e _ ⟨rfl, k, rfl⟩
          go_wp2_with fail
          refine (half141 (K + K + 1) _ dc _ (by omega) sd (hxd.drewN k).nat).mono ?_
          rintro e w3 ⟨vd', rfl, hnd, hb3⟩
          have hxd3 := NatX.of_new hnd hG
          have hxa3 := (hxa.drewN k).below hb3
          have hown3 := (hown.drewN k).below hb3
          have hbw3 := below_trans' (below_drewN hb k) hb.size hb3
          have hG3 : w.heap.size < w3.heap.size := Nat.lt_of_lt_of_le hG hb3.size
          clear hnd hb3 hxa hxd hown hb hG hcmp
          go_wp2_with fail
          go_roundg t
          case measure => have := HR.out; omega
          case rel => exact ⟨t, ac, dc / 2, L, by omega, rfl, rfl, hxa3, hxd3, sa, sd.le (Nat.div_le_self _ _), HL.out, hown3, HI2.out, hbw3, hG3⟩

theorem NatV.shape {B : Nat} {w : World} {v : Value} {x : Nat} (hB : 0 < B) (h : NatV B w v x) : ∃ A n c, v = .slice A n c ∧ n ≤ c ∧ c ≤ maxLen ∧ (n = 0 ↔ x = 0) := by
  obtain ⟨A, n, c, f, hv, hc, hm, hr, hd, hx⟩ := h
  exact ⟨A, n, c, hv, hc, hm, by rw [← hx]; exact (hd.zero hB).symm⟩

set_option maxRecDepth 100000 in
set_option maxHeartbeats 1000000 in
theorem divisor138 (K : Nat) (v1 v2 : Value) (a b : Nat) (w : World) (hK : K ≤ 500000) (s1 : Sm K a) (s2 : Sm K b) (h1 : NatV 4294967296 w v1 a) (h2 : NatV 4294967296 w v2 b) :
    Calls Tryz.prog 103 #[v1, v2] w fun e w' => ∃ v, e = .returned v ∧ NatV 4294967296 w' v (Nat.gcd a b) ∧ Below w.heap.size w w' := by
  go_enter Tryz.func103, Tryz.ntmps103
  go_wp2_with fail
  go_loopg [0, 1, 5, 6] a (fun r va vb _ _ wr => ∃ (x y : Nat), r = x ∧ NatV 4294967296 wr va x ∧ NatV 4294967296 wr vb y ∧ Sm K x ∧ Sm K y ∧ Nat.gcd x y = Nat.gcd a b ∧ Below w.heap.size w wr)
  case atStart => exact ⟨a, b, rfl, h1, h2, s1, s2, rfl, Below.refl _ _⟩
  case round =>
    obtain ⟨x, y, hr, hx, hy, sx, sy, hg, hb⟩ := hrel
    have HR := Lib.hid hr
    have HG := Lib.hid hg
    clear hr hg
    have hx' := hx
    obtain ⟨A, n, c, rfl, hnc, hcm, hn0⟩ := hx.shape (by omega)
    unfold maxLen at hcm
    by_cases h0 : 0 < n
    · have hxp : x ≠ 0 := by omega
      have HX := Lib.hid hxp
      have d0 : decide (0 < n) = true := by simpa using h0
      clear hxp hn0
      go_wp2_with fail
      refine (divide120 K _ _ y x wr hK sy sx HX.out hy hx').mono ?_
      rintro e w2 ⟨vq, vr, rfl, hq, hrr, hb2⟩
      have hbw := below_trans' hb hb.size hb2
      have hx2 := hx'.below hb2
      have hmod : y % x < x := Nat.mod_lt _ (by have := HX.out; omega)
      have hgcd : Nat.gcd (y % x) x = Nat.gcd a b := by rw [← Nat.gcd_rec, HG.out]
      have HM := Lib.hid hmod
      have HGC := Lib.hid hgcd
      clear hb2 hb hx hx' hq hmod hgcd
      go_wp2_with fail
      go_roundg (y % x)
      case measure => have := HR.out; have := HM.out; omega
      case rel => exact ⟨y % x, x, rfl, hrr, hx2, sx.le (Nat.le_of_lt HM.out), sx, HGC.out, hbw⟩
    · have d0 : decide (0 < n) = false := by simpa using h0
      have hx0 : x = 0 := by omega
      have e : y = Nat.gcd a b := by have := HG.out; rw [hx0, Nat.gcd_zero_left] at this; exact this
      rw [e] at hy
      clear hx0 e hn0
      go_wp2_with fail
      go_ret
      exact ⟨_, rfl, hy, hb⟩

set_option maxRecDepth 100000 in
set_option maxHeartbeats 4000000 in
theorem small111 (K : Nat) (v1 : Value) (a d : Nat) (w : World) (hK : K ≤ 1048576) (s1 : Sm K a) (hd0 : 0 < d) (hd : d < 1000000000) (h1 : NatV 1000000000 w v1 a) :
    Calls Tryz.prog 131 #[v1, .int .u32 d] w fun e w' => ∃ q r, e = .returned (.tuple #[q, r]) ∧ NatV 1000000000 w' q (a / d) ∧ NatV 1000000000 w' r (a % d) ∧ Below w.heap.size w w' := by
  obtain ⟨A1, n, c1, f, rfl, hc1, hm1, hr1, hd1, rfl⟩ := h1
  have l1 := s1.len (by omega) hd1
  have hn : n ≤ 1048576 := by omega
  have HD1 := Lib.hid hd1.1
  obtain ⟨D, hD⟩ := letter d
  rw [← hD]
  have hDb : 0 < D ∧ D < 1000000000 := by omega
  have HD := Lib.hid hD
  clear hd1 s1 hm1 hD
  obtain ⟨i0, hi, hz0, hz1, hz2⟩ := info_parts infoU
  go_enter Tryz.func131, Tryz.ntmps131
  go_wp2_with (at_make; refine wpList_make_full _ rfl _ _ 112 rfl w.heap.size 121 i0 (.int .u32 0) 1 Tryz.underlying112 hi hz0 hz1 .i64 .i64 _ _ n rfl rfl (by first | rfl | omega) (by first | rfl | omega) (by rw [hz2]; omega) (by unfold maxLen; omega) (Nat.le_refl _) ?_; intro w0 hown0 hgrow0)
  have hb0 : Below w.heap.size w w0 := (Below.refl _ _).grown hgrow0 (Nat.le_refl _) (fun q hq => by cases hq)
  have ho0 := OwnD.made (E := 121) hown0
  clear hown0 hgrow0
  go_wp2_with fail
  go_loopg [8, 7, 9] n (fun m i rr _ wr => ∃ (t r : Nat) (R : Int) (L : List Nat), t ≤ n ∧ m = t ∧ i = .int .i64 ((t : Int) - 1) ∧ rr = .int .u64 R ∧ R = r ∧ L.length = n ∧ OwnD 121 wr w.heap.size (.slice (some ⟨w.heap.size, 0, none⟩) n n) L ∧ SmlI 1000000000 f (dl L) n d t r ∧ Below w.heap.size w wr)
  case atStart => exact ⟨n, 0, 0, List.replicate n 0, Nat.le_refl _, rfl, rfl, rfl, rfl, by simp, ho0, SmlI.start (by omega) hd0 (fun j hj => dl_replicate j hj), hb0⟩
  case round =>
    clear ho0 hb0
    obtain ⟨t, r, R, L, ht, hm, rfl, rfl, hR, hL, hown, hI, hb⟩ := hrel
    have hr1' := hI.r1
    have hRb : 0 ≤ R ∧ R < 1000000000 := by omega
    have HM := Lib.hid hm
    have HR := Lib.hid hR
    have HL := Lib.hid hL
    clear hm hR hL
    have hHw : w.heap.size ≤ wr.heap.size := hb.size
    cases t with
    | zero =>
      obtain ⟨k1, k2⟩ := hI.done
      have hlt := hI.lt
      have K1 := Lib.hid k1
      have K2 := Lib.hid k2
      obtain ⟨hn2, hrd⟩ := hown.rd
      rw [HL.out] at hrd
      clear hI k1 k2 hn2
      go_wp2_with fail
      refine (trim115 1000000000 _ n n _ wr (Nat.le_refl _) (by unfold maxLen; omega) hrd hlt).mono ?_
      rintro e w7 ⟨v, rfl, hv, rfl⟩
      rw [K1.out] at hv
      have hnat := natOf62 r wr (by omega)
      rw [← HR.out] at hnat
      go_wp2_with fail
      refine hnat.mono ?_
      rintro e w8 ⟨v2, rfl, hv2, hb8⟩
      rw [K2.out] at hv2
      have hv' := hv.below hb8
      have hbw := below_trans' hb hb.size hb8
      clear hv hb8 hb
      go_wp2_with fail
      go_ret2
      exact ⟨_, _, rfl, hv', hv2, hbw⟩
    | succ t =>
      have ei : ((t + 1 : Nat) : Int) - 1 = (t : Int) := by omega
      rw [ei]
      obtain ⟨z0, z1, _, hlt0⟩ := hown.cell t (by rw [HL.out]; omega)
      obtain ⟨b1, o1, rfl, hb1, hcell1⟩ := hr1 (by omega)
      have x0 := hcell1 t (by omega)
      replace x0 : wr.cell? ⟨b1, o1 + t, none⟩ = some (u32V (f t)) := by rw [← x0]; exact hb.cell (p := ⟨b1, o1 + t, none⟩) hb1
      have hxb := HD1.out t (by omega)
      obtain ⟨hI2, hqb⟩ := hI.step (by omega) (by omega) hxb
      obtain ⟨F, hF⟩ := letter (f t)
      obtain ⟨Q, hQ⟩ := letter ((r * 1000000000 + f t) / d)
      obtain ⟨R', hR'⟩ := letter ((r * 1000000000 + f t) % d)
      unfold u32V at x0 z0
      rw [← hF] at x0
      have hFb : 0 ≤ F ∧ F < 1000000000 := by omega
      obtain ⟨S, hS⟩ : ∃ S : Int, R * 1000000000 + F = S := ⟨_, rfl⟩
      have hSn : S = ((r * 1000000000 + f t : Nat) : Int) := by have := HR.out; omega
      have e1 : IntKind.u64.wrap (R * 1000000000) = R * 1000000000 := IntWalk.u64_in _ (by omega)
      have e2 : IntKind.u64.wrap (R * 1000000000 + F) = S := by rw [hS]; exact IntWalk.u64_in _ (by omega)
      have hSb : 0 ≤ S ∧ S < 1000000000000000000 := by omega
      have e3 : S / D = Q := by rw [hSn, HD.out, hQ, Int.natCast_ediv]
      have e4 : S % D = R' := by rw [hSn, HD.out, hR', Int.natCast_emod]
      have e5 : S.tdiv D = Q := by rw [Int.tdiv_eq_ediv_of_nonneg hSb.1, e3]
      have e6 : S.tmod D = R' := by rw [Int.tmod_eq_emod_of_nonneg hSb.1, e4]
      have hQb : 0 ≤ Q ∧ Q < 1000000000 := by
        rw [hQ]
        clear hI hI2
        generalize (r * 1000000000 + f t) / d = q at hqb ⊢
        omega
      have hRb' : 0 ≤ R' ∧ R' < 1000000000 := by
        have : (r * 1000000000 + f t) % d < 1000000000 := Nat.lt_trans (Nat.mod_lt _ hd0) hd
        rw [hR']
        clear hI hI2
        generalize (r * 1000000000 + f t) % d = q at this ⊢
        omega
      have ew : IntKind.u32.wrap Q = Q := IntWalk.u32_in _ (by omega)
      have hset := hown.set t ((r * 1000000000 + f t) / d)
      unfold u32V at hset
      rw [← hQ] at hset
      have HS := Lib.hid hset
      have HR' := Lib.hid hR'
      have hlt : b1 < wr.heap.size := by omega
      have dne : D ≠ 0 := by omega
      clear hF hQ hS hSn hset hI hR' hqb hxb hr1 hcell1 ei hr1'
      go_wp2_with fail
      go_region
      go_wp2_with fail
      go_roundg t
      case measure => have := HM.out; omega
      case rel => exact ⟨t, _, _, L.set t ((r * 1000000000 + f t) / d), by omega, rfl, by go_num, rfl, HR'.out, by rw [List.length_set]; exact HL.out, HS.out.1.drewN 1, by rw [dl_set (by rw [HL.out]; omega)]; exact hI2, (hb.setCell (Nat.le_refl _) _).drew⟩

theorem off_upd {f : Nat → Nat} {k i x : Nat} : offN (updN f (k + i) x) k = updN (offN f k) i x := by
  funext j
  unfold offN
  by_cases h : j = i
  · subst h; rw [updN_same, updN_same]
  · rw [updN_other _ (by omega), updN_other _ h]

/-- What reduce leaves. -/
def RedPost (w : World) (G B k n Lr cap q : Nat) (L : List Nat) (v : Nat → Nat) (e : Ending) (w' : World) : Prop :=
  ∃ (b c : Nat) (L' : List Nat), e = .returned (.bool (decide (b = 0))) ∧ L'.length = Lr ∧ OwnD 121 w' B (.slice (some ⟨G, 0, none⟩) Lr cap) L' ∧ (∀ j, j < k ∨ k + (n + 1) ≤ j → dl L' j = dl L j) ∧
    RedI 1000000000 (offN (dl L) k) v n q (offN (dl L') k) (n + 1) c b ∧ w.grownBy w' (some G)

set_option maxRecDepth 100000 in
set_option maxHeartbeats 4000000 in
theorem reduce113 (G B k n Lr cap c1 c2 q : Nat) (A2 : Option Addr) (L : List Nat) (v : Nat → Nat) (w : World) (hown0 : OwnD 121 w B (.slice (some ⟨G, 0, none⟩) Lr cap) L) (hL0 : L.length = Lr) (hk : k + n + 1 ≤ Lr) (hLr : Lr ≤ 4194304)
    (hLd : ∀ j, j < Lr → dl L j < 1000000000) (h2 : RdD w A2 n v) (hd2 : ∀ j, j < n → v j < 1000000000) (hsep : 0 < n → ∀ ad, A2 = some ad → ad.block ≠ G) (hq : q ≤ 1000000000) :
    Calls Tryz.prog 133 #[.slice (some ⟨G, k, none⟩) (n + 1) c1, .slice A2 n c2, .int .u64 q] w (RedPost w G B k n Lr cap q L v) := by
  obtain ⟨Q, hQ⟩ := letter q
  rw [← hQ]
  have hQb : 0 ≤ Q ∧ Q ≤ 1000000000 := by omega
  have HQ := Lib.hid hQ
  have HD2 := Lib.hid hd2
  have HLD := Lib.hid hLd
  have HSP := Lib.hid hsep
  clear hQ hd2 hLd hsep
  have eN : (n : Int) + 1 = ((n + 1 : Nat) : Int) := rfl
  obtain ⟨N, hN⟩ : ∃ N, n + 1 = N := ⟨_, rfl⟩
  rw [hN]
  have hNb : N ≤ 4194304 := by omega
  have HN := Lib.hid hN
  clear eN hN
  go_enter Tryz.func133, Tryz.ntmps133
  go_wp2_with fail
  go_loopg [14, 7, 8, 9, 10, 11] N (fun m ii cc bw _ _ _ wr => ∃ (i c b : Nat) (C W : Int) (L' : List Nat), i ≤ N ∧ m = N - i ∧ ii = .int .i64 i ∧ cc = .int .u64 C ∧ C = c ∧ bw = .int .i64 W ∧ W = b ∧ L'.length = Lr ∧ OwnD 121 wr B (.slice (some ⟨G, 0, none⟩) Lr cap) L' ∧ (∀ j, j < k ∨ k + i ≤ j → dl L' j = dl L j) ∧
    RedI 1000000000 (offN (dl L) k) v n q (offN (dl L') k) i c b ∧ w.grownBy wr (some G))
  case atStart => exact ⟨0, 0, 0, 0, 0, L, Nat.zero_le _, rfl, rfl, rfl, rfl, rfl, rfl, hL0, hown0, fun _ _ => rfl, RedI.start, only_refl _ _⟩
  case round =>
    obtain ⟨i, c, b, C, W, L', hi, hr, rfl, rfl, hC, rfl, hW, hL, hown, hF, hI, hgr⟩ := hrel
    have hb1 := hI.b1
    have hc1 := hI.c_lt (by omega) HD2.out hq
    have hCb : 0 ≤ C ∧ C < 1000000000 := by omega
    have hWb : 0 ≤ W ∧ W ≤ 1 := by omega
    have HR := Lib.hid hr
    have HC := Lib.hid hC
    have HW := Lib.hid hW
    have HL := Lib.hid hL
    have HF := Lib.hid hF
    clear hr hC hW hL hF hown0
    by_cases hin : i < N
    · have hkL : k + i < Lr := by have := HN.out; omega
      obtain ⟨z0, z1, _, hlt0⟩ := hown.cell (k + i) (by rw [HL.out]; exact hkL)
      rw [HF.out (k + i) (by omega)] at z0
      obtain ⟨X, hX⟩ := letter (dl L (k + i))
      have hxb0 := HLD.out (k + i) hkL
      have hXb : 0 ≤ X ∧ X < 1000000000 := by omega
      unfold u32V at z0
      rw [← hX] at z0
      have hX' : X = ((offN (dl L) k i : Nat) : Int) := hX
      have HX := Lib.hid hX'
      clear hX hX' hxb0
      by_cases hkm : i < n
      · obtain ⟨b2, o2, hA2, hb2, hcell2⟩ := h2 (by omega)
        have hne := HSP.out (by omega) _ hA2
        have y0 := hgr.cell (hcell2 i hkm) (by intro h; injection h with h; exact hne h)
        have hyb := HD2.out i hkm
        have heg : ext v n i = v i := ext_lt hkm
        obtain ⟨Y, hY⟩ := letter (v i)
        have hYb : 0 ≤ Y ∧ Y < 1000000000 := by omega
        unfold u32V at y0
        rw [← hY] at y0
        have hlt2 : b2 < wr.heap.size := Nat.lt_of_lt_of_le hb2 hgr.size
        have hp : 0 ≤ Q * Y ∧ Q * Y ≤ 1000000000 * 999999999 := ⟨Int.mul_nonneg hQb.1 hYb.1, Int.mul_le_mul hQb.2 (by omega) hYb.1 (by omega)⟩
        obtain ⟨P, hP⟩ : ∃ P : Int, Q * Y = P := ⟨_, rfl⟩
        rw [hP] at hp
        have hPn : P = ((q * v i : Nat) : Int) := by rw [← hP, HQ.out, hY, Int.natCast_mul]
        obtain ⟨S, hS⟩ : ∃ S : Int, C + P = S := ⟨_, rfl⟩
        have e1 : IntKind.u64.wrap (Q * Y) = P := by rw [hP]; exact IntWalk.u64_in _ (by omega)
        have e2 : IntKind.u64.wrap (C + P) = S := by rw [hS]; exact IntWalk.u64_in _ (by omega)
        have hSb : 0 ≤ S ∧ S ≤ 1000000000000000000 := by omega
        obtain ⟨s, hs⟩ : ∃ s : Nat, c + q * v i = s := ⟨_, rfl⟩
        have hep : c + q * ext v n i = s := by rw [heg, hs]
        have hSn : S = (s : Int) := by have := HC.out; omega
        have hSd : S / 1000000000 = ((s / 1000000000 : Nat) : Int) := by omega
        have HSn := Lib.hid hSn
        have HSd := Lib.hid hSd
        subst hA2
        clear hcell2 hY hyb heg hP hPn hS hSn hSd hs hne h2
        by_cases hneg : X - S % 1000000000 - W < 0
        · have dn : decide (X - S % 1000000000 - W < 0) = true := by simpa using hneg
          obtain ⟨x, hx⟩ : ∃ x : Nat, (x : Int) = X - S % 1000000000 - W + 1000000000 := ⟨(X - S % 1000000000 - W + 1000000000).toNat, by omega⟩
          have hxb : x < 1000000000 := by omega
          have hI2 := hI.step (x := x) (b' := 1) (by omega) hxb (by omega) (by rw [hep]; have := HX.out; have := HC.out; have := HW.out; have := HSn.out; show _ = offN (dl L) k i + _; omega)
          rw [hep] at hI2
          have hset := hown.set (k + i) x
          unfold u32V at hset
          rw [hx] at hset
          have ew : IntKind.u32.wrap (X - S % 1000000000 - W + 1000000000) = X - S % 1000000000 - W + 1000000000 := IntWalk.u32_in _ (by omega)
          have HS := Lib.hid hset
          have HI2 := Lib.hid hI2
          clear hx hep hI hset hI2
          go_wp2_with fail
          go_roundg (N - (i + 1))
          case measure => have := HR.out; omega
          case rel => exact ⟨i + 1, _, 1, _, 1, L'.set (k + i) x, by omega, rfl, by go_num, rfl, HSd.out, rfl, rfl, by rw [List.length_set]; exact HL.out, HS.out.1, fun j hj => by rw [dl_set (by rw [HL.out]; omega), updN_other _ (by omega)]; exact HF.out j (by omega), by rw [dl_set (by rw [HL.out]; omega), off_upd]; exact HI2.out, only_setCell hgr (.inl rfl) _⟩
        · have dn : decide (X - S % 1000000000 - W < 0) = false := by simpa using hneg
          obtain ⟨x, hx⟩ : ∃ x : Nat, (x : Int) = X - S % 1000000000 - W := ⟨(X - S % 1000000000 - W).toNat, by omega⟩
          have hxb : x < 1000000000 := by omega
          have hI2 := hI.step (x := x) (b' := 0) (by omega) hxb (by omega) (by rw [hep]; have := HX.out; have := HC.out; have := HW.out; have := HSn.out; show _ = offN (dl L) k i + _; omega)
          rw [hep] at hI2
          have hset := hown.set (k + i) x
          unfold u32V at hset
          rw [hx] at hset
          have ew : IntKind.u32.wrap (X - S % 1000000000 - W) = X - S % 1000000000 - W := IntWalk.u32_in _ (by omega)
          have HS := Lib.hid hset
          have HI2 := Lib.hid hI2
          clear hx hep hI hset hI2
          go_wp2_with fail
          go_roundg (N - (i + 1))
          case measure => have := HR.out; omega
          case rel => exact ⟨i + 1, _, 0, _, 0, L'.set (k + i) x, by omega, rfl, by go_num, rfl, HSd.out, rfl, rfl, by rw [List.length_set]; exact HL.out, HS.out.1, fun j hj => by rw [dl_set (by rw [HL.out]; omega), updN_other _ (by omega)]; exact HF.out j (by omega), by rw [dl_set (by rw [HL.out]; omega), off_upd]; exact HI2.out, only_setCell hgr (.inl rfl) _⟩
      · have hep : c + q * ext v n i = c := by rw [ext_ge (by omega), Nat.mul_zero, Nat.add_zero]
        have em : C % 1000000000 = C := by omega
        have hCd : C / 1000000000 = ((c / 1000000000 : Nat) : Int) := by have := HC.out; omega
        have HCd := Lib.hid hCd
        have ecm : c % 1000000000 = c := Nat.mod_eq_of_lt hc1
        clear hCd
        by_cases hneg : X - C - W < 0
        · have dn : decide (X - C - W < 0) = true := by simpa using hneg
          obtain ⟨x, hx⟩ : ∃ x : Nat, (x : Int) = X - C - W + 1000000000 := ⟨(X - C - W + 1000000000).toNat, by omega⟩
          have hxb : x < 1000000000 := by omega
          have hI2 := hI.step (x := x) (b' := 1) (by omega) hxb (by omega) (by rw [hep]; have := HX.out; have := HC.out; have := HW.out; show _ = offN (dl L) k i + _; omega)
          rw [hep] at hI2
          have hset := hown.set (k + i) x
          unfold u32V at hset
          rw [hx] at hset
          have ew : IntKind.u32.wrap (X - C - W + 1000000000) = X - C - W + 1000000000 := IntWalk.u32_in _ (by omega)
          have HS := Lib.hid hset
          have HI2 := Lib.hid hI2
          clear hx hep hI hset hI2
          go_wp2_with fail
          go_roundg (N - (i + 1))
          case measure => have := HR.out; omega
          case rel => exact ⟨i + 1, _, 1, _, 1, L'.set (k + i) x, by omega, rfl, by go_num, rfl, HCd.out, rfl, rfl, by rw [List.length_set]; exact HL.out, HS.out.1, fun j hj => by rw [dl_set (by rw [HL.out]; omega), updN_other _ (by omega)]; exact HF.out j (by omega), by rw [dl_set (by rw [HL.out]; omega), off_upd]; exact HI2.out, only_setCell hgr (.inl rfl) _⟩
        · have dn : decide (X - C - W < 0) = false := by simpa using hneg
          obtain ⟨x, hx⟩ : ∃ x : Nat, (x : Int) = X - C - W := ⟨(X - C - W).toNat, by omega⟩
          have hxb : x < 1000000000 := by omega
          have hI2 := hI.step (x := x) (b' := 0) (by omega) hxb (by omega) (by rw [hep]; have := HX.out; have := HC.out; have := HW.out; show _ = offN (dl L) k i + _; omega)
          rw [hep] at hI2
          have hset := hown.set (k + i) x
          unfold u32V at hset
          rw [hx] at hset
          have ew : IntKind.u32.wrap (X - C - W) = X - C - W := IntWalk.u32_in _ (by omega)
          have HS := Lib.hid hset
          have HI2 := Lib.hid hI2
          clear hx hep hI hset hI2
          go_wp2_with fail
          go_roundg (N - (i + 1))
          case measure => have := HR.out; omega
          case rel => exact ⟨i + 1, _, 0, _, 0, L'.set (k + i) x, by omega, rfl, by go_num, rfl, HCd.out, rfl, rfl, by rw [List.length_set]; exact HL.out, HS.out.1, fun j hj => by rw [dl_set (by rw [HL.out]; omega), updN_other _ (by omega)]; exact HF.out j (by omega), by rw [dl_set (by rw [HL.out]; omega), off_upd]; exact HI2.out, only_setCell hgr (.inl rfl) _⟩
    · obtain rfl : i = N := by omega
      have hbw : decide (b = 0) = (W == 0) := by
        have := HW.out
        by_cases h : b = 0
        · have : W = 0 := by omega
          simp [h, this]
        · have : W ≠ 0 := by omega
          simp [h, this]
      have HBW := Lib.hid hbw
      have hNN := HN.out
      rw [← hNN] at hI
      have hF2 : ∀ j, j < k ∨ k + (n + 1) ≤ j → dl L' j = dl L j := by rw [hNN]; exact HF.out
      have HF2 := Lib.hid hF2
      clear hbw hNN hF2
      go_wp2_with fail
      go_ret
      exact ⟨b, c, L', by rw [HBW.out]; rfl, HL.out, hown, HF2.out, hI, hgr⟩

/-- What restore leaves. -/
def ResPost (w : World) (G B k n Lr cap : Nat) (L : List Nat) (v : Nat → Nat) (w' : World) : Prop :=
  ∃ (c : Nat) (L' : List Nat), L'.length = Lr ∧ OwnD 121 w' B (.slice (some ⟨G, 0, none⟩) Lr cap) L' ∧ (∀ j, j < k ∨ k + (n + 1) ≤ j → dl L' j = dl L j) ∧
    AddI 1000000000 (offN (dl L) k) (ext v n) (offN (dl L') k) (n + 1) c ∧ w.grownBy w' (some G)

set_option maxRecDepth 100000 in
set_option maxHeartbeats 4000000 in
theorem restore114 (G B k n Lr cap c1 c2 : Nat) (A2 : Option Addr) (L : List Nat) (v : Nat → Nat) (w : World) (hown0 : OwnD 121 w B (.slice (some ⟨G, 0, none⟩) Lr cap) L) (hL0 : L.length = Lr) (hk : k + n + 1 ≤ Lr) (hLr : Lr ≤ 4194304)
    (hLd : ∀ j, j < Lr → dl L j < 1000000000) (h2 : RdD w A2 n v) (hd2 : ∀ j, j < n → v j < 1000000000) (hsep : 0 < n → ∀ ad, A2 = some ad → ad.block ≠ G) :
    Calls Tryz.prog 134 #[.slice (some ⟨G, k, none⟩) (n + 1) c1, .slice A2 n c2] w fun e w' => e = .returned (.tuple #[]) ∧ ResPost w G B k n Lr cap L v w' := by
  have HD2 := Lib.hid hd2
  have HLD := Lib.hid hLd
  have HSP := Lib.hid hsep
  clear hd2 hLd hsep
  obtain ⟨N, hN⟩ : ∃ N, n + 1 = N := ⟨_, rfl⟩
  rw [hN]
  have hNb : N ≤ 4194304 := by omega
  have HN := Lib.hid hN
  clear hN
  go_enter Tryz.func134, Tryz.ntmps134
  go_wp2_with fail
  go_loopg [9, 4, 5, 6] N (fun m ii cc _ _ wr => ∃ (i c : Nat) (C : Int) (L' : List Nat), i ≤ N ∧ m = N - i ∧ ii = .int .i64 i ∧ cc = .int .u32 C ∧ C = c ∧ L'.length = Lr ∧ OwnD 121 wr B (.slice (some ⟨G, 0, none⟩) Lr cap) L' ∧ (∀ j, j < k ∨ k + i ≤ j → dl L' j = dl L j) ∧
    AddI 1000000000 (offN (dl L) k) (ext v n) (offN (dl L') k) i c ∧ w.grownBy wr (some G))
  case atStart => exact ⟨0, 0, 0, L, Nat.zero_le _, rfl, rfl, rfl, rfl, hL0, hown0, fun _ _ => rfl, AddI.zero, only_refl _ _⟩
  case round =>
    obtain ⟨i, c, C, L', hi, hr, rfl, rfl, hC, hL, hown, hF, hI, hgr⟩ := hrel
    have hc1 := hI.c1
    have hCb : 0 ≤ C ∧ C ≤ 1 := by omega
    have HR := Lib.hid hr
    have HC := Lib.hid hC
    have HL := Lib.hid hL
    have HF := Lib.hid hF
    clear hr hC hL hF hown0
    by_cases hin : i < N
    · have hkL : k + i < Lr := by have := HN.out; omega
      obtain ⟨z0, z1, _, hlt0⟩ := hown.cell (k + i) (by rw [HL.out]; exact hkL)
      rw [HF.out (k + i) (by omega)] at z0
      obtain ⟨X, hX⟩ := letter (dl L (k + i))
      have hxb0 := HLD.out (k + i) hkL
      have hXb : 0 ≤ X ∧ X < 1000000000 := by omega
      unfold u32V at z0
      rw [← hX] at z0
      have hX' : X = ((offN (dl L) k i : Nat) : Int) := hX
      have HX := Lib.hid hX'
      have hgb := ext_bd' (by omega) HD2.out i
      clear hX hX'
      by_cases hkm : i < n
      · obtain ⟨b2, o2, hA2, hb2, hcell2⟩ := h2 (by omega)
        have hne := HSP.out (by omega) _ hA2
        have y0 := hgr.cell (hcell2 i hkm) (by intro h; injection h with h; exact hne h)
        have hyb := HD2.out i hkm
        have hep : ext v n i = v i := ext_lt hkm
        obtain ⟨Y, hY⟩ := letter (v i)
        have hYb : 0 ≤ Y ∧ Y < 1000000000 := by omega
        unfold u32V at y0
        rw [← hY] at y0
        have HY := Lib.hid hY
        have hlt2 : b2 < wr.heap.size := Nat.lt_of_lt_of_le hb2 hgr.size
        subst hA2
        clear hcell2 hY hyb hne h2
        obtain ⟨x, hx⟩ : ∃ x : Nat, (x : Int) = (X + C + Y) % 1000000000 := ⟨((X + C + Y) % 1000000000).toNat, by omega⟩
        have hI2 := hI.step (by omega) (show offN (dl L) k i < 1000000000 from hxb0) hgb
        have hxe : (offN (dl L) k i + ext v n i + c) % 1000000000 = x := by rw [hep]; have := HX.out; have := HC.out; have := HY.out; omega
        have hcd : (X + C + Y) / 1000000000 = (((offN (dl L) k i + ext v n i + c) / 1000000000 : Nat) : Int) := by rw [hep]; have := HX.out; have := HC.out; have := HY.out; omega
        rw [hxe] at hI2
        have hset := hown.set (k + i) x
        unfold u32V at hset
        rw [hx] at hset
        have HS := Lib.hid hset
        have HI2 := Lib.hid hI2
        have HCD := Lib.hid hcd
        clear hx hep hI hset hI2 hxe hcd hgb hxb0
        go_wp2_with fail
        go_roundg (N - (i + 1))
        case measure => have := HR.out; omega
        case rel => exact ⟨i + 1, _, _, L'.set (k + i) x, by omega, rfl, by go_num, rfl, HCD.out, by rw [List.length_set]; exact HL.out, HS.out.1, fun j hj => by rw [dl_set (by rw [HL.out]; omega), updN_other _ (by omega)]; exact HF.out j (by omega), by rw [dl_set (by rw [HL.out]; omega), off_upd]; exact HI2.out, only_setCell hgr (.inl rfl) _⟩
      · have hep : ext v n i = 0 := ext_ge (by omega)
        obtain ⟨x, hx⟩ : ∃ x : Nat, (x : Int) = (X + C) % 1000000000 := ⟨((X + C) % 1000000000).toNat, by omega⟩
        have hI2 := hI.step (by omega) (show offN (dl L) k i < 1000000000 from hxb0) hgb
        have hxe : (offN (dl L) k i + ext v n i + c) % 1000000000 = x := by rw [hep]; have := HX.out; have := HC.out; omega
        have hcd : (X + C) / 1000000000 = (((offN (dl L) k i + ext v n i + c) / 1000000000 : Nat) : Int) := by rw [hep]; have := HX.out; have := HC.out; omega
        rw [hxe] at hI2
        have hset := hown.set (k + i) x
        unfold u32V at hset
        rw [hx] at hset
        have HS := Lib.hid hset
        have HI2 := Lib.hid hI2
        have HCD := Lib.hid hcd
        clear hx hep hI hset hI2 hxe hcd hgb hxb0
        go_wp2_with fail
        go_roundg (N - (i + 1))
        case measure => have := HR.out; omega
        case rel => exact ⟨i + 1, _, _, L'.set (k + i) x, by omega, rfl, by go_num, rfl, HCD.out, by rw [List.length_set]; exact HL.out, HS.out.1, fun j hj => by rw [dl_set (by rw [HL.out]; omega), updN_other _ (by omega)]; exact HF.out j (by omega), by rw [dl_set (by rw [HL.out]; omega), off_upd]; exact HI2.out, only_setCell hgr (.inl rfl) _⟩
    · obtain rfl : i = N := by omega
      have hNN := HN.out
      rw [← hNN] at hI
      have hF2 : ∀ j, j < k ∨ k + (n + 1) ≤ j → dl L' j = dl L j := by rw [hNN]; exact HF.out
      have HF2 := Lib.hid hF2
      clear hNN hF2
      go_wp2_with fail
      go_end0
      exact ⟨rfl, c, L', HL.out, hown, HF2.out, hI, hgr⟩

def digs (f : Nat → Nat) (n : Nat) : List Nat := (List.range n).map f
theorem digs_len (f : Nat → Nat) (n : Nat) : (digs f n).length = n := by simp [digs]
theorem dl_digs {f : Nat → Nat} {n j : Nat} (h : j < n) : dl (digs f n) j = f j := by simp [dl, digs, h]

set_option maxRecDepth 100000 in
set_option maxHeartbeats 1000000 in
theorem clone112 (A : Option Addr) (n c : Nat) (f : Nat → Nat) (w : World) (hn0 : 0 < n) (hn : n ≤ 4194304) (h : RdD w A n f) :
    Calls Tryz.prog 132 #[.slice A n c] w fun e w' => ∃ v, e = .returned v ∧ OwnD 121 w' w.heap.size v (digs f n) ∧ Below w.heap.size w w' := by
  obtain ⟨b, off, rfl, hb, hcell⟩ := h hn0
  obtain ⟨i0, hi, hz0, hz1, hz2⟩ := info_parts infoU
  have hnews : ∀ j u, ((digs f n).map u32V)[j]? = some u → (w.alloc (.cells #[] 121)).cell? ((⟨b, off, none⟩ : Addr).add j) = some u := fun j u hu => by
    have hj : j < n := by have := (List.getElem?_eq_some_iff.1 hu).1; simpa [digs] using this
    rw [Go.WideShapes.add_plain]
    have e : ((digs f n).map u32V)[j]? = some (u32V (f j)) := by simp [digs, hj]
    rw [e] at hu
    rw [← hu, ← hcell j hj]
    exact ((Below.refl _ _).alloc (Nat.le_refl _) _ : Below w.heap.size w _).cell (p := ⟨b, off + j, none⟩) hb
  have hlen : ((digs f n).map u32V).length = n * 1 := by simp [digs]
  have hone : ∀ u ∈ (digs f n).map u32V, u.oneCell' = true := fun u hu => by
    obtain ⟨x, _, rfl⟩ := List.mem_map.1 hu
    rfl
  have hg := heap_alloc_new w (.cells #[] 121)
  have hown : (w.alloc (.cells #[] 121)).ownsRow w.heap.size 121 1 (.slice (some ⟨w.heap.size, 0, none⟩) 0 0) 0 [] := ⟨by simp, .inr ⟨w.heap.size, 0, #[], rfl, Nat.le_refl _, hg, Nat.le_refl _, Nat.zero_le _, by simp, by simp⟩⟩
  have hbel : Below w.heap.size w (w.alloc (.cells #[] 121)) := (Below.refl _ _).alloc (Nat.le_refl _) _
  have hnil := fun w => Lib.run_eql_slice_nil (P := Tryz.prog) w 112 121 (some ⟨b, off, none⟩) n c 0 0 Tryz.underlying112
  have HN := Lib.hid hnews
  clear hcell hnews h
  go_enter Tryz.func132, Tryz.ntmps132
  go_wp2_with (at_builtin; refine wpList_append_lies _ (by rfl) (.tmp 5) (.tmp 6) 112 (by rfl) w.heap.size 121 i0 _ 1 4 Tryz.underlying112 hi hz0 hz1 hz2 rfl (by omega) _ _ _ (by rfl) hown ⟨b, off, none⟩ n c ((digs f n).map u32V) (by rfl) hlen HN.out hone (by omega) (by unfold maxLen; omega) (by omega) (by simp) (w.heap.size + 1) (by simp) ?_; intro g' cap' w6 hown6 hgrow hat hlt6)
  have hb6 : Below w.heap.size w w6 := hbel.grown hgrow hbel.size (fun q hq => (World.ownsRow.lt hown q hq).1)
  simp only [Nat.zero_add, List.nil_append] at hown6
  have ho : OwnD 121 w6 w.heap.size (.slice (some ⟨g', 0, none⟩) n cap') (digs f n) := by
    unfold OwnD
    rw [digs_len]
    exact hown6
  clear hown6 hgrow hat hown hg
  go_wp2_with fail
  go_ret
  exact ⟨_, rfl, ho, hb6⟩
end Go.Proofs.YtpligjkbnlfhgaaGreatDoor
