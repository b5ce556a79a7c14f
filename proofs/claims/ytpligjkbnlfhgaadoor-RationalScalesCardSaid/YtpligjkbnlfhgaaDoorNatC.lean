/- Long numbers: comparison, both texts. -/
import Derived.Test.YtpligjkbnlfhgaaDoorNatB
namespace Go.Proofs.YtpligjkbnlfhgaaDoor
open Go.RowKit

theorem drewN_zero (w : World) : w = w.drewN 0 := rfl
theorem drewN_trans {a b : World} {n m : Nat} (h : a = b.drewN n) : a.drewN m = b.drewN (n + m) := by
  subst h
  rw [World.drewN_drewN]
theorem nv_same {B : Nat} {f g : Nat → Nat} {n : Nat} (h : ∀ i, 0 ≤ i → i < n → f i = g i) : nv B f n = nv B g n := nv_congr fun i hi => h i (by omega) hi

set_option maxRecDepth 100000 in
set_option maxHeartbeats 1000000 in
theorem cmpNat64 (B : Nat) (hB : 1 < B) (v1 v2 : Value) (a b : Nat) (w : World) (h1 : NatV B w v1 a) (h2 : NatV B w v2 b) :
    Calls Tryd.prog 64 #[v1, v2] w fun e w' => e = .returned (.int .i64 (cmpI a b)) ∧ ∃ k, w' = w.drewN k := by
  obtain ⟨A1, n, c1, f, rfl, hc1, hm1, hr1, hd1, rfl⟩ := h1
  obtain ⟨A2, m, c2, g, rfl, hc2, hm2, hr2, hd2, rfl⟩ := h2
  unfold maxLen at hm1 hm2
  rcases Nat.lt_trichotomy n m with hlt | heq | hgt
  · have e := Lib.hid (cmpI_lt (cmp_len hB hd1 hd2 hlt))
    have d1 : decide (n < m) = true := by simpa using hlt
    have d2 : ((n : Int) == m) = false := by rw [beq_eq_false_iff_ne]; omega
    have d3 : ((n : Int) != m) = true := by rw [bne_iff_ne]; omega
    clear hr1 hr2 hd1 hd2
    go_enter Tryd.func64, Tryd.ntmps64
    go_wp2_with fail
    go_ret
    exact ⟨by rw [e.out]; rfl, ⟨0, rfl⟩⟩
  · subst heq
    have HD1 := Lib.hid hd1.1
    have HD2 := Lib.hid hd2.1
    clear hd1 hd2
    go_enter Tryd.func64, Tryd.ntmps64
    go_wp2_with fail
    go_loopg [5] n (fun r i wr => ∃ k : Nat, k ≤ n ∧ r = k ∧ i = .int .i64 ((k : Int) - 1) ∧ (∀ j, k ≤ j → j < n → f j = g j) ∧ ∃ q, wr = w.drewN q)
    case atStart => exact ⟨n, Nat.le_refl _, rfl, rfl, fun j h1 h2 => by omega, 0, rfl⟩
    case round =>
      obtain ⟨k, hk, hr, rfl, hz, q, rfl⟩ := hrel
      have HR := Lib.hid hr
      have HZ := Lib.hid hz
      clear hr hz
      cases k with
      | zero =>
        have e := Lib.hid (cmpI_eq (nv_same (B := B) HZ.out))
        go_wp2_with fail
        go_ret
        exact ⟨by rw [e.out]; rfl, q, rfl⟩
      | succ k =>
        obtain ⟨b1, o1, rfl, hb1, hcell1⟩ := hr1 (by omega)
        obtain ⟨b2, o2, rfl, hb2, hcell2⟩ := hr2 (by omega)
        have x0 := hcell1 k (by omega)
        have y0 := hcell2 k (by omega)
        have ei : ((k + 1 : Nat) : Int) - 1 = (k : Int) := by omega
        rw [ei]
        clear hcell1 hcell2 hr1 hr2 ei
        have x1 : ∀ q, (w.drewN q).cell? ⟨b1, o1 + k, none⟩ = some (u32V (f k)) := fun q => x0
        have y1 : ∀ q, (w.drewN q).cell? ⟨b2, o2 + k, none⟩ = some (u32V (g k)) := fun q => y0
        have hz2 := HZ.out
        rcases Nat.lt_trichotomy (f k) (g k) with hlt | heq | hgt
        · have e := Lib.hid (cmpI_lt (cmp_top (B := B) (show k < n by omega) HD1.out HD2.out (fun j h1 h2 => hz2 j h1 h2) hlt))
          have d1 : decide (f k < g k) = true := by simpa using hlt
          have d3 : (((f k : Nat) : Int) != ((g k : Nat) : Int)) = true := by rw [bne_iff_ne]; omega
          clear hz2
          go_wp2_with fail
          go_quiet (fail)
          go_wp2_with fail
          try go_quiet (fail)
          try go_wp2_with fail
          go_ret
          exact ⟨by rw [e.out]; rfl, by (try simp only [World.drewN_drewN]); exact ⟨_, rfl⟩⟩
        · have d1 : decide (f k < g k) = false := by simp; omega
          have d2 : decide (g k < f k) = false := by simp; omega
          have d3 : (((f k : Nat) : Int) != ((g k : Nat) : Int)) = false := by rw [bne_eq_false_iff_eq]; omega
          have HE := Lib.hid heq
          have hz3 : ∀ j, k ≤ j → j < n → f j = g j := fun j h1 h2 => if e : j = k then e ▸ heq else hz2 j (by omega) h2
          have HZ3 := Lib.hid hz3
          clear hz2 hz3 heq
          go_wp2_with fail
          go_quiet (fail)
          go_wp2_with fail
          try go_quiet (fail)
          try go_wp2_with fail
          go_roundg k
          case measure => have := HR.out; omega
          case rel => exact ⟨k, by omega, rfl, rfl, HZ3.out, by (try simp only [World.drewN_drewN]); exact ⟨_, rfl⟩⟩
        · have e := Lib.hid (cmpI_gt (cmp_top (B := B) (show k < n by omega) HD2.out HD1.out (fun j h1 h2 => (hz2 j h1 h2).symm) hgt))
          have d1 : decide (f k < g k) = false := by simp; omega
          have d2 : decide (g k < f k) = true := by simpa using hgt
          have d3 : (((f k : Nat) : Int) != ((g k : Nat) : Int)) = true := by rw [bne_iff_ne]; omega
          clear hz2
          go_wp2_with fail
          go_quiet (fail)
          go_wp2_with fail
          try go_quiet (fail)
          try go_wp2_with fail
          go_ret
          exact ⟨by rw [e.out]; rfl, by (try simp only [World.drewN_drewN]); exact ⟨_, rfl⟩⟩
  · have e := Lib.hid (cmpI_gt (cmp_len hB hd2 hd1 hgt))
    have d1 : decide (n < m) = false := by simp; omega
    have d4 : decide (m < n) = true := by simpa using hgt
    have d3 : ((n : Int) != m) = true := by rw [bne_iff_ne]; omega
    clear hr1 hr2 hd1 hd2
    go_enter Tryd.func64, Tryd.ntmps64
    go_wp2_with fail
    go_ret
    exact ⟨by rw [e.out]; rfl, ⟨0, rfl⟩⟩

set_option maxRecDepth 100000 in
set_option maxHeartbeats 1000000 in
theorem compare119 (B : Nat) (hB : 1 < B) (v1 v2 : Value) (a b : Nat) (w : World) (h1 : NatV B w v1 a) (h2 : NatV B w v2 b) :
    Calls Tryd.prog 119 #[v1, v2] w fun e w' => e = .returned (.int .i64 (cmpI a b)) ∧ ∃ k, w' = w.drewN k := by
  obtain ⟨A1, n, c1, f, rfl, hc1, hm1, hr1, hd1, rfl⟩ := h1
  obtain ⟨A2, m, c2, g, rfl, hc2, hm2, hr2, hd2, rfl⟩ := h2
  unfold maxLen at hm1 hm2
  rcases Nat.lt_trichotomy n m with hlt | heq | hgt
  · have e := Lib.hid (cmpI_lt (cmp_len hB hd1 hd2 hlt))
    have d1 : decide (n < m) = true := by simpa using hlt
    have d2 : ((n : Int) == m) = false := by rw [beq_eq_false_iff_ne]; omega
    have d3 : ((n : Int) != m) = true := by rw [bne_iff_ne]; omega
    clear hr1 hr2 hd1 hd2
    go_enter Tryd.func119, Tryd.ntmps119
    go_wp2_with fail
    go_ret
    exact ⟨by rw [e.out]; rfl, ⟨0, rfl⟩⟩
  · subst heq
    have HD1 := Lib.hid hd1.1
    have HD2 := Lib.hid hd2.1
    clear hd1 hd2
    go_enter Tryd.func119, Tryd.ntmps119
    go_wp2_with fail
    go_loopg [5] n (fun r i wr => ∃ k : Nat, k ≤ n ∧ r = k ∧ i = .int .i64 ((k : Int) - 1) ∧ (∀ j, k ≤ j → j < n → f j = g j) ∧ ∃ q, wr = w.drewN q)
    case atStart => exact ⟨n, Nat.le_refl _, rfl, rfl, fun j h1 h2 => by omega, 0, rfl⟩
    case round =>
      obtain ⟨k, hk, hr, rfl, hz, q, rfl⟩ := hrel
      have HR := Lib.hid hr
      have HZ := Lib.hid hz
      clear hr hz
      cases k with
      | zero =>
        have e := Lib.hid (cmpI_eq (nv_same (B := B) HZ.out))
        go_wp2_with fail
        go_ret
        exact ⟨by rw [e.out]; rfl, q, rfl⟩
      | succ k =>
        obtain ⟨b1, o1, rfl, hb1, hcell1⟩ := hr1 (by omega)
        obtain ⟨b2, o2, rfl, hb2, hcell2⟩ := hr2 (by omega)
        have x0 := hcell1 k (by omega)
        have y0 := hcell2 k (by omega)
        have ei : ((k + 1 : Nat) : Int) - 1 = (k : Int) := by omega
        rw [ei]
        clear hcell1 hcell2 hr1 hr2 ei
        have x1 : ∀ q, (w.drewN q).cell? ⟨b1, o1 + k, none⟩ = some (u32V (f k)) := fun q => x0
        have y1 : ∀ q, (w.drewN q).cell? ⟨b2, o2 + k, none⟩ = some (u32V (g k)) := fun q => y0
        have hz2 := HZ.out
        rcases Nat.lt_trichotomy (f k) (g k) with hlt | heq | hgt
        · have e := Lib.hid (cmpI_lt (cmp_top (B := B) (show k < n by omega) HD1.out HD2.out (fun j h1 h2 => hz2 j h1 h2) hlt))
          have d1 : decide (f k < g k) = true := by simpa using hlt
          have d3 : (((f k : Nat) : Int) != ((g k : Nat) : Int)) = true := by rw [bne_iff_ne]; omega
          clear hz2
          go_wp2_with fail
          go_quiet (fail)
          go_wp2_with fail
          try go_quiet (fail)
          try go_wp2_with fail
          go_ret
          exact ⟨by rw [e.out]; rfl, by (try simp only [World.drewN_drewN]); exact ⟨_, rfl⟩⟩
        · have d1 : decide (f k < g k) = false := by simp; omega
          have d2 : decide (g k < f k) = false := by simp; omega
          have d3 : (((f k : Nat) : Int) != ((g k : Nat) : Int)) = false := by rw [bne_eq_false_iff_eq]; omega
          have HE := Lib.hid heq
          have hz3 : ∀ j, k ≤ j → j < n → f j = g j := fun j h1 h2 => if e : j = k then e ▸ heq else hz2 j (by omega) h2
          have HZ3 := Lib.hid hz3
          clear hz2 hz3 heq
          go_wp2_with fail
          go_quiet (fail)
          go_wp2_with fail
          try go_quiet (fail)
          try go_wp2_with fail
          go_roundg k
          case measure => have := HR.out; omega
          case rel => exact ⟨k, by omega, rfl, rfl, HZ3.out, by (try simp only [World.drewN_drewN]); exact ⟨_, rfl⟩⟩
        · have e := Lib.hid (cmpI_gt (cmp_top (B := B) (show k < n by omega) HD2.out HD1.out (fun j h1 h2 => (hz2 j h1 h2).symm) hgt))
          have d1 : decide (f k < g k) = false := by simp; omega
          have d2 : decide (g k < f k) = true := by simpa using hgt
          have d3 : (((f k : Nat) : Int) != ((g k : Nat) : Int)) = true := by rw [bne_iff_ne]; omega
          clear hz2
          go_wp2_with fail
          go_quiet (fail)
          go_wp2_with fail
          try go_quiet (fail)
          try go_wp2_with fail
          go_ret
          exact ⟨by rw [e.out]; rfl, by (try simp only [World.drewN_drewN]); exact ⟨_, rfl⟩⟩
  · have e := Lib.hid (cmpI_gt (cmp_len hB hd2 hd1 hgt))
    have d1 : decide (n < m) = false := by simp; omega
    have d4 : decide (m < n) = true := by simpa using hgt
    have d3 : ((n : Int) != m) = true := by rw [bne_iff_ne]; omega
    clear hr1 hr2 hd1 hd2
    go_enter Tryd.func119, Tryd.ntmps119
    go_wp2_with fail
    go_ret
    exact ⟨by rw [e.out]; rfl, ⟨0, rfl⟩⟩
end Go.Proofs.YtpligjkbnlfhgaaDoor
